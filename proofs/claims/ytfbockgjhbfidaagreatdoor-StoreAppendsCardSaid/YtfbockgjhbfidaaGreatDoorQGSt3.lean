/- Texts of this session, cut down to what one claim needs and joined: StR, StApA, StR2. -/
import Derived.Test.YtfbockgjhbfidaaGreatDoorQGR
import Derived.Test.YtfbockgjhbfidaaGreatDoorQStPure2
import Derived.Lib.SmallJoins
import Derived.SizedLaws
import Derived.Test.YtfbockgjhbfidaaGreatDoorQStApL
section
set_option linter.unusedVariables false
set_option linter.unusedSimpArgs false
namespace Go.Proofs.YtfbockgjhbfidaaGreatDoor.Pr
open Go.ChangeShapes Go.WideShapes Go.ChangeAt Go.RowKit Go.Proofs.YtfbockgjhbfidaaGreatDoorW.PrintWords Go.Lib Go.Joins

/-- What reads as data of type t, within the reach, holds something of kind k. -/
structure RdW {α : Type} (P : Program) (k : Kd α) (t : TypeId) (wf : α → Prop) : Prop where
 rd : ∀ {H : Type} (enc : TypeId × Value → H) (W : World) (held : Bool) (fuel : Nat) (cs : List Value) (x : DataW H × List MemPlace), DataW.trod enc P W 0 (fun _ => true) held fuel t cs = some x → (∀ n ∈ x.1.weights P t, n ≤ reachBytes) → ∃ a, k.K W a cs ∧ wf a
 sz : P.cellsOf t = k.sz
theorem RdW.of {α : Type} {P : Program} {k : Kd α} {t : TypeId} {wf : α → Prop} (h : RdK P k t wf) : RdW P k t wf := ⟨fun enc W held fuel cs x hx _ => h.rd enc W held fuel cs x hx, h.sz⟩
theorem RdW.iso {P : Program} {t : TypeId} {α β : Type} {d : Kd α} {wf : α → Prop} (h : RdW P d t wf) (f : β → α) (g : α → β) (fg : ∀ a, f (g a) = a) : RdW P (Kd.iso d f) t (fun b => wf (f b)) where
 rd := fun enc W held fuel cs x hh hn => by
  obtain ⟨a, ha, hw⟩ := h.rd enc W held fuel cs x hh hn
  exact ⟨g a, by show d.K W (f (g a)) cs; rw [fg]; exact ha, by rw [fg]; exact hw⟩
 sz := h.sz
theorem RdW.pair {P : Program} {t : TypeId} {α β : Type} {a : Kd α} {b : Kd β} {w0 : α → Prop} {w1 : β → Prop} {f0 f1 : Field} (ht : P.underlying t = some (.struct #[f0, f1])) (o0 : f0.offset = 0) (h0 : RdW P a f0.type w0) (h1 : RdW P b f1.type w1) (o1 : f1.offset = a.sz) (hc : P.cellsOf t = a.sz + b.sz) : RdW P (Kd.pair a b) t (fun x => w0 x.1 ∧ w1 x.2) where
 rd := fun enc W held fuel cs x h hn => by
  obtain ⟨y0, y1, n, rfl, hl, t0, t1⟩ := Go.ChangeShapes.trod_struct2 ht h
  have hw : ∀ n, n ∈ (DataW.agg [y0.1, y1.1]).weights P t ↔ n ∈ y0.1.weights P f0.type ∨ n ∈ y1.1.weights P f1.type := fun n => by simp [DataW.weights, DataW.weightsEach, ht]
  obtain ⟨x0, k0, g0⟩ := h0.rd enc W held _ _ _ t0 (fun n hm => hn n ((hw n).2 (.inl hm)))
  obtain ⟨x1, k1, g1⟩ := h1.rd enc W held _ _ _ t1 (fun n hm => hn n ((hw n).2 (.inr hm)))
  refine ⟨(x0, x1), ⟨_, _, ?_, k0, k1⟩, g0, g1⟩
  rw [o0, o1, h0.sz, h1.sz, List.drop_zero]
  rw [hc] at hl
  rw [List.take_of_length_le (l := cs.drop a.sz) (by rw [List.length_drop]; omega), List.take_append_drop]
 sz := hc
theorem weightsAll_mem {H : Type} {P : Program} {e : TypeId} {n : Nat} : ∀ {l : List (DataW H)} {d : DataW H}, d ∈ l → n ∈ d.weights P e → n ∈ DataW.weightsAll P e l
 | x :: r, d, hd, hn => by
  unfold DataW.weightsAll
  rcases List.mem_cons.1 hd with rfl | hd
  ·exact List.mem_append.2 (.inl hn)
  ·exact List.mem_append.2 (.inr (weightsAll_mem hd hn))
theorem RdW.slice {P : Program} {t e : TypeId} {α : Type} [Inhabited α] {d : Kd α} {wf : α → Prop} (ht : P.underlying t = some (.slice e)) (hc : P.cellsOf t = 1) (h : RdW P d e wf) : RdW P (Kd.slice e d) t (fun l => l.length * P.bytesOf e ≤ reachBytes ∧ ∀ x ∈ l, wf x) where
 rd := fun enc W held fuel cs x hh hn => by
  rcases Go.Deep.open_slice ht hh with ⟨rfl, _⟩ | ⟨a, len, cap, m, n, D, Pl, rfl, hb, hl, hm, hmm, hx, hel⟩
  ·exact ⟨[], ⟨none, 0, rfl, Nat.le_refl _, rfl, by simp, fun h => absurd h (by simp)⟩, by simp, fun _ h => by cases h⟩
  ·have hw0 : (len + (m - len)) * P.bytesOf e ≤ reachBytes := hn _ (by rw [hx]; simp [DataW.weights, ht])
   have hwi : ∀ i, i < len → ∀ q ∈ (D i).weights P e, q ≤ reachBytes := fun i hi q hq => hn q (by
    rw [hx]
    simp only [DataW.weights, ht]
    exact List.mem_cons_of_mem _ (List.mem_append.2 (.inl (weightsAll_mem (List.mem_map.2 ⟨i, List.mem_range.2 hi, rfl⟩) hq))))
   have hlen0 : len * P.bytesOf e ≤ reachBytes := Nat.le_trans (Nat.mul_le_mul_right _ (by omega)) hw0
   have hel' : ∀ i, i < len → ∃ y : α, ∃ cs', W.cells? 0 (a.add (i * P.cellsOf e)) (P.cellsOf e) = some cs' ∧ d.K W y cs' ∧ wf y := by
    intro i hi
    obtain ⟨cs', h1, h2⟩ := hel i (by rw [hmm]; simp only [if_true]; omega)
    obtain ⟨y, k0, k1⟩ := h.rd enc W held _ _ _ h2 (hwi i hi)
    exact ⟨y, cs', h1, k0, k1⟩
   obtain ⟨f, hf⟩ := Go.Deep.choose_lt hel'
   have hlen : ((List.range len).map f).length = len := by simp
   refine ⟨(List.range len).map f, ⟨some a, cap, by rw [hlen], by rw [hlen]; exact hl, hlen.symm ▸ rfl, by rw [hlen]; have : maxLen = 9223372036854775807 := rfl; omega, fun h0 => ⟨a, rfl, ?_⟩⟩, by rw [hlen]; exact hlen0, ?_⟩
   ·intro j p hj
    obtain ⟨hjl, rfl⟩ : ∃ hj : j < len, f j = p := by
     have hjl : j < len := by
      rcases Nat.lt_or_ge j len with h' | h'
      ·exact h'
      ·rw [List.getElem?_eq_none (by simpa using h')] at hj; cases hj
     exact ⟨hjl, by simpa [hjl] using hj⟩
    obtain ⟨cs', h1, h2, _⟩ := hf j hjl
    refine ⟨cs', d.K_len h2, h2, ?_⟩
    obtain ⟨_, h4, h5⟩ := World.cells?_some h1
    intro i u hu
    have hi : i < cs'.length := by
     rcases Nat.lt_or_ge i cs'.length with h' | h'
     ·exact h'
     ·rw [List.getElem?_eq_none h'] at hu; cases hu
    have := h5 i (by omega)
    rw [Go.Deep.add_add, h.sz, hu] at this
    exact this
   ·intro x hx
    obtain ⟨i, hi, rfl⟩ := List.mem_map.1 hx
    obtain ⟨_, _, _, h3⟩ := hf i (List.mem_range.1 hi)
    exact h3
 sz := hc
instance : Inhabited S26 := ⟨z26⟩
instance : Inhabited S47 := ⟨z47⟩
theorem rdkP : RdK Tryz.prog k26 26 (fun x => (Lit.int .i64 x.f0).wf = true ∧ (Lit.int .u64 x.f1).wf = true) :=
 RdK.iso (RdK.pair Tryz.underlying26 rfl (RdK.int Tryz.underlying2 (by kernel_rfl)) (RdK.int Tryz.underlying24 (by kernel_rfl)) rfl (by kernel_rfl)) (fun x : S26 => (x.f0, x.f1)) (fun p => ⟨p.1, p.2⟩) (fun _ => rfl)
theorem bytesP : Tryz.prog.bytesOf 26 = 16 := by kernel_rfl
theorem bytesS : Tryz.prog.bytesOf 47 = 48 := by kernel_rfl
theorem rdwS : RdW Tryz.prog k47 47 (fun x => (x.f0.length ≤ maxLen ∧ ∀ y ∈ x.f0, y.f0.size ≤ maxLen ∧ y.f1.size ≤ maxLen) ∧ (x.f1.length * Tryz.prog.bytesOf 26 ≤ reachBytes ∧ ∀ y ∈ x.f1, (Lit.int .i64 y.f0).wf = true ∧ (Lit.int .u64 y.f1).wf = true)) :=
 RdW.iso (RdW.pair Tryz.underlying47 rfl (RdW.of rdk23) (RdW.slice Tryz.underlying45 (by kernel_rfl) (RdW.of rdkP)) rfl (by kernel_rfl)) (fun x : S47 => (x.f0, x.f1)) (fun p => ⟨p.1, p.2⟩) (fun _ => rfl)
theorem reach_at {H : Type} {P : Program} {ts : List TypeId} {ds : List (DataW H)} (h : (DataW.weightsEach P ts ds).all (· ≤ reachBytes) = true) {j : Nat} {t : TypeId} {d : DataW H} (ht : ts[j]? = some t) (hd : ds[j]? = some d) : ∀ n ∈ d.weights P t, n ≤ reachBytes := fun n hn => by
 have := List.all_eq_true.1 h _ (DataW.weights_mem_each ht hd n hn)
 simpa using this
/-! ### A point by value -/
theorem cellsP : Tryz.prog.cellsOf 26 = 2 := by kernel_rfl
set_option maxRecDepth 100000 in
theorem open_point {H : Type} {enc : TypeId × Value → H} {W : World} {base b0 : Nat} {spare : Nat → Bool} {held : Bool} {r : Reach} {v : Value} {d : DataW H} {p : List MemPlace} (hv : Value.okWide Tryz.prog W r b0 26 v) (h : DataW.Trod enc Tryz.prog W base spare held 26 v d p) :
  ∃ s t, v = .agg #[.int .i64 s, .int .u64 t] ∧ d = .agg [.lit (.int .i64 s), .lit (.int .u64 t)] ∧ p = [] ∧ (Lit.int .i64 s).wf = true ∧ (Lit.int .u64 t).wf = true := by
 obtain ⟨v0, v1, y0, y1, n, rfl, rfl, rfl, h0, h1⟩ := open_agg2 Tryz.underlying26 (by kernel_rfl) cellsP hv h
 obtain ⟨s, e0, rfl, w0⟩ := DataW.trod_int Tryz.underlying2 h0
 obtain ⟨t, e1, rfl, w1⟩ := DataW.trod_int Tryz.underlying24 h1
 simp only [List.cons.injEq, and_true] at e0 e1
 subst e0; subst e1
 exact ⟨s, t, rfl, rfl, rfl, w0, w1⟩
set_option maxRecDepth 100000 in
theorem shut_point {H : Type} {enc : TypeId × Value → H} {W : World} {base : Nat} {spare : Nat → Bool} {held : Bool} {s t : Int} (w0 : (Lit.int .i64 s).wf = true) (w1 : (Lit.int .u64 t).wf = true) : DataW.Trod enc Tryz.prog W base spare held 26 (.agg #[.int .i64 s, .int .u64 t]) (.agg [.lit (.int .i64 s), .lit (.int .u64 t)]) [] :=
 shut_agg2 (y0 := (.lit (.int .i64 s), [])) (y1 := (.lit (.int .u64 t), [])) Tryz.underlying26 (by kernel_rfl) cellsP ⟨1, by simp [DataW.trod, Tryz.underlying2, w0]⟩ ⟨1, by simp [DataW.trod, Tryz.underlying24, w1]⟩
end Go.Proofs.YtfbockgjhbfidaaGreatDoor.Pr
end

section
set_option linter.unusedVariables false
set_option linter.unusedSimpArgs false
namespace Go.Proofs.YtfbockgjhbfidaaGreatDoor.Pr
open Go.RowKit Go.Proofs.Fl Go.Proofs.YtfbockgjhbfidaaGreatDoorW.PrintWords Go.Proofs.YtfbockgjhbfidaaGreatDoorW.PrintLast Go.Proofs.YtfbockgjhbfidaaGreatDoorW.PrintMore

def wfS2 (s : List Ser) : Prop := wfS s ∧ ∀ x ∈ s, ∀ p ∈ x.f1, u64P p.f1
theorem append_pos {s : List Ser} {l : Lbs} {t v : Int} {c : Int} (h : (appendV s l t v).2 = some c) : 0 < c := by
 unfold appendV at h
 by_cases hr : RightP s
 ·rw [if_pos hr] at h
  rcases makeV_two (sortL l) with ⟨e, hR, _⟩ | e
  ·have hm : makeV (sortL l) = ((makeV (sortL l)).1, none) := by rw [← e]
   rw [hm] at h
   dsimp only at h
   generalize (makeV (sortL l)).1 = m at *
   by_cases h0 : m.length = 0
   ·rw [if_pos h0] at h; cases h; decide
   ·rw [if_neg h0] at h
    by_cases ht : TimP t
    ·rw [if_pos ht, put_ins m t v s hr.2] at h
     cases hi : ins m t (normI v) s with
     | none => rw [hi] at h; cases h; decide
     | some o => rw [hi] at h; cases h
    ·rw [if_neg ht] at h; cases h; decide
  ·rw [e] at h; cases h; decide
 ·rw [if_neg hr] at h; cases h; decide
theorem apair_of {α : Type} {p : List α × Option Int} {c : Int} (h1 : p.1 = []) (h2 : p.2 = some c) : p = ([], some c) := by cases p; simp_all
theorem apps_all (A0 : Option Addr) (c0 : Nat) (s : List Ser) (A1 : Option Addr) (c1 : Nat) (l : Lbs) (tp vp : Int) (w : World)
  (hL : LaidAll w) (hr0 : Kd.C k47 w A0 s.length s) (hc0 : s.length ≤ c0) (hr1 : Kd.C k44 w A1 l.length l) (hc1 : l.length ≤ c1) (ws : wfS2 s) (wl : l.length ≤ 9223372036854775807) (wv : (Lit.int .u64 vp).wf = true) :
  Calls Tryz.prog 3 #[.slice A0 s.length c0, .slice A1 l.length c1, .agg #[.int .i64 tp, .int .u64 vp]] w fun e w' => e = .returned (.bool true) ∧ Below w.heap.size w w' := by
 obtain ⟨k5, r5, h5, hs5⟩ := short05_ex s ws.1
 cases r5 with
 | false => exact apps_r1 A0 c0 s A1 c1 l tp vp w hL hr0 hc0 hr1 hc1 k5 h5
 | true =>
 have hta := short_some l wl (l.length + 1) (by omega)
 cases hA : shortB l with
 | false => rw [hA] at hta; exact apps_r2 A0 c0 s A1 c1 l tp vp w hL hr0 hc0 hr1 hc1 k5 _ h5 hta
 | true =>
 rw [hA] at hta
 have sl := (short_small hA).1
 have ll := (short_small hA).2.2
 obtain ⟨hx, hn⟩ := hs5 rfl
 have hsm : ∀ x ∈ s, smallL x.f0 := fun x hm => (short_small (hx x hm)).1
 have hsr : ∀ x ∈ s, smallR x.f0 := fun x hm => short_smallR (hx x hm)
 have hok := okS_of hsm (by omega)
 have hcp := copy_some s hok
 have hrf := refFind_some s l hok (by omega)
 have hss := same_self s hok
 have hrs := rightS_some s hok
 obtain ⟨kq, hrr⟩ := refRight05_some s hok hsr ws.2
 have hv := u64_wf wv
 cases e1 : (appendV s l tp vp).2 with
 | some d1 => exact apps_r3 A0 c0 s A1 c1 l tp vp w hL hr0 hc0 hr1 hc1 k5 _ _ _ _ _ kq _ (findV s l).1 (findV s l).2 (decide (RightP s)) d1 (append_pos e1) h5 hta hok sl hA (by omega) hsr ws.2 hv hcp rfl hrf hss hrs hrr (apair_of (append_fail e1) e1) (same_self [] okS_nil)
 | none =>
  obtain ⟨m, x, hr, hm, h0, hR, ht, hi, e⟩ := append_done e1
  have sm := small_made sl hm
  have cx := ins_many _ _ _ _ _ hi
  have hxo := okS_of (ins_small hsm sm hi) (by omega)
  have rx := ins_right m tp _ h0 hR (one_norm ht) s x hr hi
  have hrx := rightS_some x hxo
  rw [decide_eq_true rx] at hrx
  have hmx := many_some x (by omega) (by omega)
  have hms := many_some s (by omega) (by omega)
  rw [cx.1] at hmx
  exact apps_r4 A0 c0 s A1 c1 l tp vp w hL hr0 hc0 hr1 hc1 k5 _ _ _ _ _ kq _ (findV s l).1 (findV s l).2 (decide (RightP s)) x _ _ _ (manyN s : Int) (by unfold wrap64; omega) h5 hta hok sl hA (by omega) hsr ws.2 hv hcp rfl hrf hss hrs hrr e (same_self x hxo) hrx hmx hms
end Go.Proofs.YtfbockgjhbfidaaGreatDoor.Pr
end

section
set_option linter.unusedVariables false
set_option linter.unusedSimpArgs false
namespace Go.Proofs.YtfbockgjhbfidaaGreatDoor.Pr
open Go.ChangeShapes Go.WideShapes Go.ChangeAt Go.RowKit Go.Proofs.YtfbockgjhbfidaaGreatDoorW.PrintWords Go.Lib Go.Joins

theorem rdwSs2 : RdW Tryz.prog (Kd.slice 47 k47) 22 wfS2 := ⟨fun enc W held fuel cs x hx hn => by
 obtain ⟨l, hk, h1, h2⟩ := (RdW.slice Tryz.underlying22 (by kernel_rfl) rdwS).rd enc W held fuel cs x hx hn
 rw [bytesS] at h1
 refine ⟨l, hk, ⟨by simp only [reachBytes] at h1; omega, fun x hx => ?_⟩, fun x hx p hp => u64_wf ((h2 x hx).2.2 p hp).2⟩
 obtain ⟨⟨h3, _⟩, h4, _⟩ := h2 x hx
 rw [bytesP] at h4
 simp only [reachBytes] at h4
 simp only [maxLen] at h3
 omega, (RdW.slice Tryz.underlying22 (by kernel_rfl) rdwS).sz⟩
end Go.Proofs.YtfbockgjhbfidaaGreatDoor.Pr
end
