/- Texts of this session, cut down to what one claim needs and joined: StR. -/
import Derived.Test.YtfbockgjhbfidaaDoorZGR
import Derived.Test.YtfbockgjhbfidaaDoorZStPure2
import Derived.Lib.SmallJoins
import Derived.SizedLaws
set_option linter.unusedVariables false
set_option linter.unusedSimpArgs false
namespace Go.Proofs.YtfbockgjhbfidaaDoor.Pr
open Go.ChangeShapes Go.WideShapes Go.ChangeAt Go.RowKit Go.Proofs.YtfbockgjhbfidaaDoorW.PrintWords Go.Lib Go.Joins

/-- What reads as data of type t, within the reach, holds something of kind k. -/
structure RdW {α : Type} (P : Program) (k : Kd α) (t : TypeId) (wf : α → Prop) : Prop where
  rd : ∀ {H : Type} (enc : TypeId × Value → H) (W : World) (held : Bool) (fuel : Nat) (cs : List Value) (x : DataW H × List MemPlace), DataW.trod enc P W 0 (fun _ => true) held fuel t cs = some x → (∀ n ∈ x.1.weights P t, n ≤ reachBytes) → ∃ a, k.K W a cs ∧ wf a
  sz : P.cellsOf t = k.sz
theorem RdW.of {α : Type} {P : Program} {k : Kd α} {t : TypeId} {wf : α → Prop} (h : RdK P k t wf) : RdW P k t wf := ⟨fun enc W held fuel cs x hx _ => h.rd enc W held fuel cs x hx, h.sz⟩
theorem RdW.iso {P : Program} {t : TypeId} {α β : Type} {d : Kd α} {wf : α → Prop} (h : RdW P d t wf) (f : β → α) (g : α → β) (fg : ∀ a, f (g a) = a) : RdW P (Kd.iso d f) t (fun b => wf (f b)) where
  rd := fun enc W held fuel cs x hh hn => by
    obtain ⟨a, ha, hw⟩ := h.rd enc W held fuel cs x hh hn
    exact ⟨g a, by show d.K W (f (g a)) cs; rw [fg]; exact ha, by rw [fg]; exact hw⟩
  sz := h.sz
theorem RdW.pair {P : Program} {t : TypeId} {α β : Type} {a : Kd α} {b : Kd β} {w0 : α → Prop} {w1 : β → Prop} {f0 f1 : Field} (ht : P.underlying t = some (.struct #[f0, f1])) (o0 : f0.offset = 0) (h0 : RdW P a f0.type w0) (h1 : RdW P b f1.type w1) (o1 : f1.offset = a.sz) (hc : P.cellsOf t = a.sz + b.sz) : RdW P (Kd.pair a b) t (fun x => w0 x.1 ∧ w1 x.2) where
  rd := fun enc W held fuel cs x h hn => by
    obtain ⟨y0, y1, n, rfl, hl, t0, t1⟩ := Go.ChangeShapes.trod_struct2 ht h
    have hw : ∀ n, n ∈ (DataW.agg [y0.1, y1.1]).weights P t ↔ n ∈ y0.1.weights P f0.type ∨ n ∈ y1.1.weights P f1.type := fun n => by simp [DataW.weights, DataW.weightsEach, ht]
    obtain ⟨x0, k0, g0⟩ := h0.rd enc W held _ _ _ t0 (fun n hm => hn n ((hw n).2 (.inl hm)))
    obtain ⟨x1, k1, g1⟩ := h1.rd enc W held _ _ _ t1 (fun n hm => hn n ((hw n).2 (.inr hm)))
    refine ⟨(x0, x1), ⟨_, _, ?_, k0, k1⟩, g0, g1⟩
    rw [o0, o1, h0.sz, h1.sz, List.drop_zero]
    rw [hc] at hl
    rw [List.take_of_length_le (l := cs.drop a.sz) (by rw [List.length_drop]; omega), List.take_append_drop]
  sz := hc
theorem weightsAll_mem {H : Type} {P : Program} {e : TypeId} {n : Nat} : ∀ {l : List (DataW H)} {d : DataW H}, d ∈ l → n ∈ d.weights P e → n ∈ DataW.weightsAll P e l
  | x :: r, d, hd, hn => by
    unfold DataW.weightsAll
    rcases List.mem_cons.1 hd with rfl | hd
    · exact List.mem_append.2 (.inl hn)
    · exact List.mem_append.2 (.inr (weightsAll_mem hd hn))
theorem RdW.slice {P : Program} {t e : TypeId} {α : Type} [Inhabited α] {d : Kd α} {wf : α → Prop} (ht : P.underlying t = some (.slice e)) (hc : P.cellsOf t = 1) (h : RdW P d e wf) : RdW P (Kd.slice e d) t (fun l => l.length * P.bytesOf e ≤ reachBytes ∧ ∀ x ∈ l, wf x) where
  rd := fun enc W held fuel cs x hh hn => by
    rcases Go.Deep.open_slice ht hh with ⟨rfl, _⟩ | ⟨a, len, cap, m, n, D, Pl, rfl, hb, hl, hm, hmm, hx, hel⟩
    · exact ⟨[], ⟨none, 0, rfl, Nat.le_refl _, rfl, by simp, fun h => absurd h (by simp)⟩, by simp, fun _ h => by cases h⟩
    · have hw0 : (len + (m - len)) * P.bytesOf e ≤ reachBytes := hn _ (by rw [hx]; simp [DataW.weights, ht])
      have hwi : ∀ i, i < len → ∀ q ∈ (D i).weights P e, q ≤ reachBytes := fun i hi q hq => hn q (by
        rw [hx]
        simp only [DataW.weights, ht]
        exact List.mem_cons_of_mem _ (List.mem_append.2 (.inl (weightsAll_mem (List.mem_map.2 ⟨i, List.mem_range.2 hi, rfl⟩) hq))))
      have hlen0 : len * P.bytesOf e ≤ reachBytes := Nat.le_trans (Nat.mul_le_mul_right _ (by omega)) hw0
      have hel' : ∀ i, i < len → ∃ y : α, ∃ cs', W.cells? 0 (a.add (i * P.cellsOf e)) (P.cellsOf e) = some cs' ∧ d.K W y cs' ∧ wf y := by
        intro i hi
        obtain ⟨cs', h1, h2⟩ := hel i (by rw [hmm]; simp only [if_true]; omega)
        obtain ⟨y, k0, k1⟩ := h.rd enc W held _ _ _ h2 (hwi i hi)
        exact ⟨y, cs', h1, k0, k1⟩
      obtain ⟨f, hf⟩ := Go.Deep.choose_lt hel'
      have hlen : ((List.range len).map f).length = len := by simp
      refine ⟨(List.range len).map f, ⟨some a, cap, by rw [hlen], by rw [hlen]; exact hl, hlen.symm ▸ rfl, by rw [hlen]; have : maxLen = 9223372036854775807 := rfl; omega, fun h0 => ⟨a, rfl, ?_⟩⟩, by rw [hlen]; exact hlen0, ?_⟩
      · intro j p hj
        obtain ⟨hjl, rfl⟩ : ∃ hj : j < len, f j = p := by
          have hjl : j < len := by
            rcases Nat.lt_or_ge j len with h' | h'
            · exact h'
            · rw [List.getElem?_eq_none (by simpa using h')] at hj; cases hj
          exact ⟨hjl, by simpa [hjl] using hj⟩
        obtain ⟨cs', h1, h2, _⟩ := hf j hjl
        refine ⟨cs', d.K_len h2, h2, ?_⟩
        obtain ⟨_, h4, h5⟩ := World.cells?_some h1
        intro i u hu
        have hi : i < cs'.length := by
          rcases Nat.lt_or_ge i cs'.length with h' | h'
          · exact h'
          · rw [List.getElem?_eq_none h'] at hu; cases hu
        have := h5 i (by omega)
        rw [Go.Deep.add_add, h.sz, hu] at this
        exact this
      · intro x hx
        obtain ⟨i, hi, rfl⟩ := List.mem_map.1 hx
        obtain ⟨_, _, _, h3⟩ := hf i (List.mem_range.1 hi)
        exact h3
  sz := hc
instance : Inhabited S56 := ⟨z56⟩
instance : Inhabited S71 := ⟨z71⟩
theorem rdkP : RdK Tryd.prog k56 56 (fun x => (Lit.int .i64 x.f0).wf = true ∧ (Lit.int .u64 x.f1).wf = true) :=
  RdK.iso (RdK.pair Tryd.underlying56 rfl (RdK.int Tryd.underlying2 (by kernel_rfl)) (RdK.int Tryd.underlying54 (by kernel_rfl)) rfl (by kernel_rfl)) (fun x : S56 => (x.f0, x.f1)) (fun p => ⟨p.1, p.2⟩) (fun _ => rfl)
theorem bytesP : Tryd.prog.bytesOf 56 = 16 := by kernel_rfl
theorem bytesS : Tryd.prog.bytesOf 71 = 48 := by kernel_rfl
theorem rdwS : RdW Tryd.prog k71 71 (fun x => (x.f0.length ≤ maxLen ∧ ∀ y ∈ x.f0, y.f0.size ≤ maxLen ∧ y.f1.size ≤ maxLen) ∧ (x.f1.length * Tryd.prog.bytesOf 56 ≤ reachBytes ∧ ∀ y ∈ x.f1, (Lit.int .i64 y.f0).wf = true ∧ (Lit.int .u64 y.f1).wf = true)) :=
  RdW.iso (RdW.pair Tryd.underlying71 rfl (RdW.of rdk36) (RdW.slice Tryd.underlying69 (by kernel_rfl) (RdW.of rdkP)) rfl (by kernel_rfl)) (fun x : S71 => (x.f0, x.f1)) (fun p => ⟨p.1, p.2⟩) (fun _ => rfl)
theorem rdwSs : RdW Tryd.prog (Kd.slice 71 k71) 53 wfS := ⟨fun enc W held fuel cs x hx hn => by
  obtain ⟨l, hk, h1, h2⟩ := (RdW.slice Tryd.underlying53 (by kernel_rfl) rdwS).rd enc W held fuel cs x hx hn
  rw [bytesS] at h1
  refine ⟨l, hk, by simp only [reachBytes] at h1; omega, fun x hx => ?_⟩
  obtain ⟨⟨h3, _⟩, h4, _⟩ := h2 x hx
  rw [bytesP] at h4
  simp only [reachBytes] at h4
  simp only [maxLen] at h3
  omega, (RdW.slice Tryd.underlying53 (by kernel_rfl) rdwS).sz⟩
theorem reach_at {H : Type} {P : Program} {ts : List TypeId} {ds : List (DataW H)} (h : (DataW.weightsEach P ts ds).all (· ≤ reachBytes) = true) {j : Nat} {t : TypeId} {d : DataW H} (ht : ts[j]? = some t) (hd : ds[j]? = some d) : ∀ n ∈ d.weights P t, n ≤ reachBytes := fun n hn => by
  have := List.all_eq_true.1 h _ (DataW.weights_mem_each ht hd n hn)
  simpa using this
/-! ### A point by value -/
theorem cellsP : Tryd.prog.cellsOf 56 = 2 := by kernel_rfl
set_option maxRecDepth 100000 in
theorem open_point {H : Type} {enc : TypeId × Value → H} {W : World} {base b0 : Nat} {spare : Nat → Bool} {held : Bool} {r : Reach} {v : Value} {d : DataW H} {p : List MemPlace} (hv : Value.okWide Tryd.prog W r b0 56 v) (h : DataW.Trod enc Tryd.prog W base spare held 56 v d p) :
    ∃ s t, v = .agg #[.int .i64 s, .int .u64 t] ∧ d = .agg [.lit (.int .i64 s), .lit (.int .u64 t)] ∧ p = [] ∧ (Lit.int .i64 s).wf = true ∧ (Lit.int .u64 t).wf = true := by
  obtain ⟨v0, v1, y0, y1, n, rfl, rfl, rfl, h0, h1⟩ := open_agg2 Tryd.underlying56 (by kernel_rfl) cellsP hv h
  obtain ⟨s, e0, rfl, w0⟩ := DataW.trod_int Tryd.underlying2 h0
  obtain ⟨t, e1, rfl, w1⟩ := DataW.trod_int Tryd.underlying54 h1
  simp only [List.cons.injEq, and_true] at e0 e1
  subst e0; subst e1
  exact ⟨s, t, rfl, rfl, rfl, w0, w1⟩
set_option maxRecDepth 100000 in
theorem shut_point {H : Type} {enc : TypeId × Value → H} {W : World} {base : Nat} {spare : Nat → Bool} {held : Bool} {s t : Int} (w0 : (Lit.int .i64 s).wf = true) (w1 : (Lit.int .u64 t).wf = true) : DataW.Trod enc Tryd.prog W base spare held 56 (.agg #[.int .i64 s, .int .u64 t]) (.agg [.lit (.int .i64 s), .lit (.int .u64 t)]) [] :=
  shut_agg2 (y0 := (.lit (.int .i64 s), [])) (y1 := (.lit (.int .u64 t), [])) Tryd.underlying56 (by kernel_rfl) cellsP ⟨1, by simp [DataW.trod, Tryd.underlying2, w0]⟩ ⟨1, by simp [DataW.trod, Tryd.underlying54, w1]⟩
end Go.Proofs.YtfbockgjhbfidaaDoor.Pr
