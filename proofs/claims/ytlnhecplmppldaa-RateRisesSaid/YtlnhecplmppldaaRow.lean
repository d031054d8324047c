import Derived.Test.YtlnhecplmppldaaPr0
import Derived.Deep.Slices
import Derived.WalkKit
import Derived.ProofKit
import Derived.OpenShut
import Derived.ShutString
import Derived.ChangeOld
import Derived.Below
import Derived.SizedLaws
import Derived.Test.YtlnhecplmppldaaWSized
set_option linter.unusedVariables false
set_option linter.unusedSimpArgs false
namespace Go.Proofs.Ytlnhecplmppldaa.Pr
open Go.RowKit Go.Proofs.YtlnhecplmppldaaW.PrintWords

/-- What reads as data of type t holds something of kind k. -/
structure RdK {α : Type} (P : Program) (k : Kd α) (t : TypeId) (wf : α → Prop) : Prop where
  rd : ∀ {H : Type} (enc : TypeId × Value → H) (W : World) (held : Bool) (fuel : Nat) (cs : List Value) (x : DataW H × List MemPlace), DataW.trod enc P W 0 (fun _ => true) held fuel t cs = some x → ∃ a, k.K W a cs ∧ wf a
  sz : P.cellsOf t = k.sz

theorem RdK.int {P : Program} {t : TypeId} {q : IntKind} (ht : P.underlying t = some (.int q)) (hc : P.cellsOf t = 1) : RdK P (Kd.int q) t (fun n => (Lit.int q n).wf = true) where
  rd := fun enc W held fuel cs x h => by
    obtain ⟨n, rfl, _, hw⟩ := DataW.trod_int ht h
    exact ⟨n, rfl, hw⟩
  sz := hc
theorem RdK.string {P : Program} {t : TypeId} (ht : P.underlying t = some .string) (hc : P.cellsOf t = 1) : RdK P Kd.string t (fun s => s.size ≤ maxLen) where
  rd := fun enc W held fuel cs x h => by
    obtain ⟨n, rfl, _, hw⟩ := DataW.trod_string ht h
    exact ⟨n, rfl, hw⟩
  sz := hc
theorem RdK.iso {P : Program} {t : TypeId} {α β : Type} {d : Kd α} {wf : α → Prop} (h : RdK P d t wf) (f : β → α) (g : α → β) (fg : ∀ a, f (g a) = a) : RdK P (Kd.iso d f) t (fun b => wf (f b)) where
  rd := fun enc W held fuel cs x hh => by
    obtain ⟨a, ha, hw⟩ := h.rd enc W held fuel cs x hh
    exact ⟨g a, by show d.K W (f (g a)) cs; rw [fg]; exact ha, by rw [fg]; exact hw⟩
  sz := h.sz
theorem RdK.pair {P : Program} {t : TypeId} {α β : Type} {a : Kd α} {b : Kd β} {w0 : α → Prop} {w1 : β → Prop} {f0 f1 : Field} (ht : P.underlying t = some (.struct #[f0, f1])) (o0 : f0.offset = 0) (h0 : RdK P a f0.type w0) (h1 : RdK P b f1.type w1) (o1 : f1.offset = a.sz) (hc : P.cellsOf t = a.sz + b.sz) : RdK P (Kd.pair a b) t (fun x => w0 x.1 ∧ w1 x.2) where
  rd := fun enc W held fuel cs x h => by
    obtain ⟨y0, y1, n, _, hl, t0, t1⟩ := Go.ChangeShapes.trod_struct2 ht h
    obtain ⟨x0, k0, g0⟩ := h0.rd enc W held _ _ _ t0
    obtain ⟨x1, k1, g1⟩ := h1.rd enc W held _ _ _ t1
    refine ⟨(x0, x1), ⟨_, _, ?_, k0, k1⟩, g0, g1⟩
    rw [o0, o1, h0.sz, h1.sz, List.drop_zero]
    rw [hc] at hl
    rw [List.take_of_length_le (l := cs.drop a.sz) (by rw [List.length_drop]; omega), List.take_append_drop]
  sz := hc
theorem RdK.slice {P : Program} {t e : TypeId} {α : Type} [Inhabited α] {d : Kd α} {wf : α → Prop} (ht : P.underlying t = some (.slice e)) (hc : P.cellsOf t = 1) (h : RdK P d e wf) : RdK P (Kd.slice e d) t (fun l => l.length ≤ maxLen ∧ ∀ x ∈ l, wf x) where
  rd := fun enc W held fuel cs x hh => by
    rcases Go.Deep.open_slice ht hh with ⟨rfl, _⟩ | ⟨a, len, cap, m, n, D, Pl, rfl, hb, hl, hm, hmm, hx, hel⟩
    · exact ⟨[], ⟨none, 0, rfl, Nat.le_refl _, rfl, by simp, fun h => absurd h (by simp)⟩, by simp [maxLen], fun _ h => by cases h⟩
    · have hel' : ∀ i, i < len → ∃ y : α, ∃ cs', W.cells? 0 (a.add (i * P.cellsOf e)) (P.cellsOf e) = some cs' ∧ d.K W y cs' ∧ wf y := by
        intro i hi
        obtain ⟨cs', h1, h2⟩ := hel i (by rw [hmm]; simp only [if_true]; omega)
        obtain ⟨y, k0, k1⟩ := h.rd enc W held _ _ _ h2
        exact ⟨y, cs', h1, k0, k1⟩
      obtain ⟨f, hf⟩ := Go.Deep.choose_lt hel'
      have hlen : ((List.range len).map f).length = len := by simp
      refine ⟨(List.range len).map f, ⟨some a, cap, by rw [hlen], by rw [hlen]; exact hl, hlen.symm ▸ rfl, by rw [hlen]; have : maxLen = 9223372036854775807 := rfl; omega, fun h0 => ⟨a, rfl, ?_⟩⟩, by rw [hlen]; omega, ?_⟩
      · intro j p hj
        obtain ⟨hjl, rfl⟩ : ∃ hj : j < len, f j = p := by
          have hjl : j < len := by
            rcases Nat.lt_or_ge j len with h' | h'
            · exact h'
            · rw [List.getElem?_eq_none (by simpa using h')] at hj; cases hj
          exact ⟨hjl, by simpa [hjl] using hj⟩
        obtain ⟨cs', h1, h2, _⟩ := hf j hjl
        refine ⟨cs', d.K_len h2, h2, ?_⟩
        obtain ⟨_, h4, h5⟩ := World.cells?_some h1
        intro i u hu
        have hi : i < cs'.length := by
          rcases Nat.lt_or_ge i cs'.length with h' | h'
          · exact h'
          · rw [List.getElem?_eq_none h'] at hu; cases hu
        have := h5 i (by omega)
        rw [Go.Deep.add_add, h.sz, hu] at this
        exact this
      · intro x hx
        obtain ⟨i, hi, rfl⟩ := List.mem_map.1 hx
        obtain ⟨_, _, _, h3⟩ := hf i (List.mem_range.1 hi)
        exact h3
  sz := hc

end Go.Proofs.Ytlnhecplmppldaa.Pr
