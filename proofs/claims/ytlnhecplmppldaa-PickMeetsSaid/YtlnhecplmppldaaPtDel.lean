import Derived.Test.YtlnhecplmppldaaPr0
import Derived.Test.YtlnhecplmppldaaFK
import Derived.WalkKit
import Derived.WalkSpells
import Derived.WalkLawsBesides
import Derived.Deep.QuietTactic
import Derived.Deep.RegionHeld3
import Derived.Deep.RegionHeldLaw
import Derived.Deep.DeepCutAuto
import Derived.BigQuiet
import Derived.RegionTactic
import Derived.BigRegion
import Derived.Outline
import Derived.Shelf.Abstract
import Derived.Test.YtlnhecplmppldaaPtIdx
set_option linter.unusedVariables false
set_option linter.unusedSimpArgs false
namespace Go.Proofs.Ytlnhecplmppldaa.Pr
open Go.RowKit Go.Proofs.Fl Go.Proofs.YtlnhecplmppldaaW.PrintWords Go.Proofs.YtlnhecplmppldaaW.PrintLast Go.Proofs.YtlnhecplmppldaaW.PrintMore


/-- The head of a row stays a row where cells behind it are written. -/
theorem R_cutset {α : Type} {d : Kd α} {e n cap g o i : Nat} {W : World} {base : Nat} {ok : Nat → Prop} {xs : List α} (h : d.R e W base ok (.slice (some ⟨g, 0, none⟩) n cap) xs) (hi : i ≤ xs.length) (zs : List Value) (ho : i * d.sz ≤ o) (hz : o + zs.length ≤ cap * d.sz) :
    d.R e (W.setCells g o zs) base ok (.slice (some ⟨g, 0, none⟩) i cap) (xs.take i) := by
  obtain ⟨h0, inner, hown, hr⟩ := Kd.R_take h hi
  have hl : (xs.take i).length = i := by rw [List.length_take]; omega
  refine ⟨h0, inner, ?_, hr.imp_ (fun _ _ hp => d.M_move (fun k hk => setCells_far zs o k (fun e' => hk.2 (by rw [e']; rfl))) hp)⟩
  rw [hl] at hown ⊢
  obtain ⟨h1, h2⟩ := hown
  refine ⟨h1, ?_⟩
  rcases h2 with ⟨hv, _⟩ | ⟨g', cap', cur, hv, hb, hh, hnc, hcm, hcs, ht⟩
  · cases hv
  · injection hv with ha _ hc
    injection ha with ha
    injection ha with hg'
    subst hg'; subst hc
    obtain ⟨cur', hh', hs', hcur⟩ := setCells_row zs o W cur hh (by omega)
    refine .inr ⟨g, cap, cur', rfl, hb, hh', hnc, hcm, by rw [hs', hcs], ?_⟩
    rw [← ht, hcur, List.append_assoc, List.take_append_of_le_length (by rw [List.length_take, Array.length_toList]; omega), List.take_take, Nat.min_eq_left ho]

theorem below_setCells' {B : Nat} {A w : World} (h : Below B A w) {g : Nat} (hg : B ≤ g) : ∀ (zs : List Value) (o : Nat), Below B A (w.setCells g o zs) := by
  intro zs
  induction zs generalizing w with
  | nil => intro o; exact h
  | cons z r ih => intro o; exact ih (h.setCell hg z) (o + 1)

theorem firstFrom_none {α : Type} (p : α → Bool) : ∀ (l : List α) (i : Nat), firstFrom p l i = none → l.filter (fun x => !p x) = l
  | [], _, _ => rfl
  | x :: r, i, h => by
    unfold firstFrom at h
    by_cases hp : p x = true
    · rw [if_pos hp] at h; cases h
    · rw [if_neg hp] at h
      have hf : p x = false := by simpa using hp
      rw [List.filter_cons, hf]; simp [firstFrom_none p r (i + 1) h]
theorem firstFrom_some {α : Type} (p : α → Bool) : ∀ (l : List α) (i k : Nat), firstFrom p l i = some k → i ≤ k ∧ k - i < l.length ∧ (l.take (k - i + 1)).filter (fun x => !p x) = l.take (k - i)
  | [], _, _, h => by cases h
  | x :: r, i, k, h => by
    unfold firstFrom at h
    by_cases hp : p x = true
    · rw [if_pos hp] at h; cases h
      refine ⟨Nat.le_refl _, by simp, by simp [hp]⟩
    · rw [if_neg hp] at h
      obtain ⟨h1, h2, h3⟩ := firstFrom_some p r (i + 1) k h
      have hf : p x = false := by simpa using hp
      refine ⟨by omega, by simp; omega, ?_⟩
      rw [show k - i + 1 = (k - (i + 1) + 1) + 1 from by omega, show k - i = (k - (i + 1)) + 1 from by omega, List.take_succ_cons, List.take_succ_cons, List.filter_cons, hf]
      simp [h3]
theorem filter_take_succ {α : Type} (q : α → Bool) (l : List α) (j : Nat) (h : j < l.length) : (l.take (j + 1)).filter q = (l.take j).filter q ++ (if q l[j] = true then [l[j]] else []) := by
  rw [List.take_succ_eq_append_getElem h, List.filter_append]
  congr 1
  by_cases hq : q l[j] = true <;> simp [hq]
theorem take_set_same {α : Type} (l : List α) (i : Nat) (x : α) (h : i < l.length) : (l.set i x).take (i + 1) = l.take i ++ [x] := by
  rw [List.take_succ_eq_append_getElem (by simpa using h), List.take_set, List.getElem_set_self]
  congr 1
  exact List.set_eq_of_length_le (by simp; omega)
theorem drop_set_before {α : Type} (l : List α) (i j : Nat) (x : α) (h : i < j) : (l.set i x).drop j = l.drop j := List.drop_set_of_lt (by omega)

theorem clear_Pt (w : World) (g i n cap : Nat) (cur : Array Value) (hh : w.heap[g]? = some (.cells cur 29 (0, 0))) (hcs : cur.size = cap * 2) (hi : i < n) (hn : n ≤ cap) :
    ∃ zs : List Value, zs.length = (n - i) * 2 ∧ ∀ ty : TypeId, (Builtin.clear_ #[22] ty #[.slice (some ⟨g, i * 2, none⟩) (n - i) (cap - i)]).run Try.prog w = .ok (.tuple #[]) (w.setCells g (i * 2) zs) := by
  have hv : ∀ w, (zeroValue 29).run Try.prog w = .ok (.agg #[.int .i64 0, .int .u64 0]) w := fun w => by
    obtain ⟨i0, hi0, hz0, _⟩ := info_parts info29
    simp [zeroValue, typeInfo, hi0, hz0]
  refine ⟨(Builtin.zeroCells #[.int .i64 0, .int .u64 0] (n - i)).toList, by simp [Builtin.zeroCells], fun ty => ?_⟩
  have hst := run_storeCells_cells (P := Try.prog) g (i * 2) (Builtin.zeroCells #[.int .i64 0, .int .u64 0] (n - i)).toList 0 w (fun j hj => by
      rw [cell_of_row w g _ cur 29 (0, 0) hh]
      have : j < (n - i) * 2 := by simpa [Builtin.zeroCells] using hj
      simp; omega) (fun j _ => blk_frozen hh _) (by
      intro u hu
      simp [Builtin.zeroCells] at hu
      obtain ⟨a, ha, rfl⟩ := hu
      have : a % 2 = 0 ∨ a % 2 = 1 := by omega
      rcases this with h | h <;> rw [h] <;> rfl)
  simp only [Nat.add_zero] at hst
  obtain ⟨m, hm⟩ : ∃ m, n - i = m + 1 := ⟨n - i - 1, by omega⟩
  rw [hm] at hst ⊢
  simp [Builtin.clear_, run_underlying Try.underlying22, hv, show (Value.agg #[.int .i64 0, .int .u64 0]).cells = #[.int .i64 0, .int .u64 0] from rfl, hst]

theorem row_block {α : Type} {d : Kd α} {e n cap g : Nat} {W : World} {base : Nat} {ok : Nat → Prop} {xs : List α} (h : d.R e W base ok (.slice (some ⟨g, 0, none⟩) n cap) xs) : ∃ cur, W.heap[g]? = some (.cells cur e (0, 0)) ∧ cur.size = cap * d.sz ∧ n ≤ cap ∧ base ≤ g ∧ cap ≤ maxLen := by
  obtain ⟨_, inner, hown, _⟩ := h
  rcases hown.2 with ⟨hv, _⟩ | ⟨g', cap', cur, hv, hb, hh, hnc, hcm, hcs, ht⟩
  · cases hv
  · injection hv with ha hn' hc
    injection ha with ha
    injection ha with hg'
    subst hg'; subst hc; subst hn'
    exact ⟨cur, hh, hcs, hnc, hb, hcm⟩
theorem row_form {α : Type} {d : Kd α} {e : Nat} {W : World} {base : Nat} {ok : Nat → Prop} {v : Value} {xs : List α} (h : d.R e W base ok v xs) (hx : 0 < xs.length) : ∃ g cap, v = .slice (some ⟨g, 0, none⟩) xs.length cap := by
  obtain ⟨_, inner, hown, _⟩ := h
  rcases hown.2 with ⟨hv, h0⟩ | ⟨g', cap', cur, hv, _⟩
  · omega
  · exact ⟨g', cap', hv⟩

set_option maxHeartbeats 4000000 in
set_option maxRecDepth 100000 in
theorem deleteFunc_Pt (p : S29 → Bool) (g0 : FuncId) (caps : Array Value) (B : Nat) (W w : World) (HB : Below B W w) (hBw : B ≤ w.heap.size) (v : Value) (l0 : List S29) (HO : Kd.R k29 29 w B (fun _ => True) v l0) (hb : l0.length ≤ 8796093022208)
    (eg : ∀ args w, (callFunc g0 args).run Try.prog w = .ok (.enter g0 args) w)
    (hf : ∀ (x : S29) (w1 : World), Below B W w1 → Calls Try.prog g0 (#[.agg #[.int .i64 x.f0, .int .u64 x.f1]] ++ caps) w1 fun e w' => e = .returned (.bool (p x)) ∧ Below w1.heap.size w1 w') :
    Calls Try.prog 37 #[v, .func (.func g0) #[] caps] w fun e w' => ∃ v' : Value, e = .returned v' ∧ Kd.R k29 29 w' B (fun _ => True) v' (l0.filter fun x => !p x) ∧ Below B W w' := by
  obtain ⟨A, c, hv, hcl, hC⟩ := Kd.R_reads HO
  have HIDX := Aside0.mk (indexFunc_Pt p g0 caps B W w HB hBw A c l0 hC hcl (by omega) eg hf)
  rw [← hv] at HIDX
  have HF := Aside0.mk hf
  have HB0 := Aside0.mk HB
  have HBW := Aside0.mk hBw
  have HO0 := Aside0.mk HO
  cases hk : firstFrom p l0 0 with
  | none =>
    have hfo : firstOf p l0 = -1 := by unfold firstOf; rw [hk]
    have hfi := firstFrom_none p l0 0 hk
    rw [hfo] at HIDX
    have HFI := Aside0.mk hfi
    clear hk hfo hfi hf HB hBw HO hv hcl hC hb
    go_enter Try.func37, Try.ntmps37
    go_wp2_with (go_at_call 45; refine HIDX.out.mono ?_; rintro e w' ⟨rfl, hb'⟩)
    go_ret
    exact ⟨v, rfl, by rw [HFI.out]; exact Kd.R_below HO0.out hb', below_then HB0.out HBW.out hb'⟩
  | some i0 =>
    obtain ⟨_, hi0, hfs⟩ := firstFrom_some p l0 0 i0 hk
    simp only [Nat.sub_zero] at hi0 hfs
    have hfo : firstOf p l0 = (i0 : Int) := by unfold firstOf; rw [hk]
    rw [hfo] at HIDX
    obtain ⟨g, cap, rfl⟩ := row_form HO (by omega)
    obtain ⟨n, hn⟩ : ∃ n, n = l0.length := ⟨_, rfl⟩
    have HN := Aside0.mk hn
    have HFS := Aside0.mk hfs
    rw [← hn] at HIDX HO0 hb ⊢
    have hi0n : i0 < n := by omega
    have hneg : ((i0 : Int) == -1) = false := by simp
    clear hk hfo hfs hf HB hBw HO hv hcl hC hn hi0
    have w0 : IntKind.i64.wrap ((i0 : Int) + 1) = (i0 : Int) + 1 := IntWalk.i64_in _ (by omega)
    go_enter Try.func37, Try.ntmps37
    go_wp2_with (go_at_call 45; refine HIDX.out.mono ?_; rintro e w' ⟨rfl, hb'⟩)
    have HB1 := Aside0.mk (below_then HB0.out HBW.out hb')
    have HO1 := Aside0.mk (Kd.R_below HO0.out hb')
    clear hb'
    go_loopw [5, 6] (fun v5 v6 w' => ∃ (i j : Nat) (zs : List S29), v5 = .int .i64 i ∧ v6 = .int .i64 j ∧ i < j ∧ j ≤ n ∧ Aside0 (Kd.R k29 29 w' B (fun _ => True) (.slice (some ⟨g, 0, none⟩) n cap) zs) ∧ Aside0 (zs.length = n) ∧ Aside0 (zs.drop j = l0.drop j) ∧ Aside0 (zs.take i = (l0.take j).filter (fun x => !p x)) ∧ Aside0 (Below B W w')) (fun _ v6 _ => n - (intOf v6).toNat)
    case atStart => exact ⟨i0, i0 + 1, l0, rfl, by go_num, by omega, by omega, HO1, ⟨HN.out.symm⟩, ⟨rfl⟩, ⟨HFS.out.symm⟩, HB1⟩
    case round =>
      obtain ⟨i, j, zs, rfl, rfl, hij, hjn, HOz, HZ, HD, HT, HBz⟩ := hrel
      by_cases hlt : j < n
      · obtain ⟨hz1, hz2, hC⟩ := Kd.R_reads' HOz.out
        obtain ⟨aj, ej, y0, y1⟩ := at_T29 hC (j : Nat) (by omega) (by omega)
        obtain ⟨ai, ei, u0, u1⟩ := at_T29 hC (i : Nat) (by omega) (by omega)
        cases ej
        cases ei
        obtain ⟨xj, hxj⟩ : ∃ x, x = rd_T29 zs (j : Nat) := ⟨_, rfl⟩
        obtain ⟨xi, hxi⟩ : ∃ x, x = rd_T29 zs (i : Nat) := ⟨_, rfl⟩
        have hjl : j < l0.length := by have := HN.out; omega
        have hjx : l0[j]'hjl = xj := by
          have h1 := congrArg (fun l => l[0]?) HD.out
          simp only [List.getElem?_drop, Nat.add_zero] at h1
          rw [hxj]
          have hjz : j < zs.length := by have := HZ.out; omega
          rw [List.getElem?_eq_getElem hjz, List.getElem?_eq_getElem hjl] at h1
          simp only [rd_T29, Int.toNat_natCast, List.getD_eq_getElem?_getD, List.getElem?_eq_getElem hjz, Option.getD_some]
          exact (Option.some.inj h1).symm
        have HS := filter_take_succ (fun x => !p x) l0 j hjl
        rw [hjx] at HS
        have HSS := Aside0.mk HS
        rw [← hxj] at y0 y1
        rw [← hxi] at u0 u1
        simp only [Int.toNat_natCast, add_plain] at y0 y1 u0 u1
        have HD1 : Aside0 (zs.drop (j + 1) = l0.drop (j + 1)) := ⟨by rw [← List.drop_drop, HD.out, List.drop_drop]⟩
        have bg : g < wr.heap.size := World.block_lt_of_cell? wr _ y0
        have w1 : IntKind.i64.wrap ((j : Int) + 1) = (j : Int) + 1 := IntWalk.i64_in _ (by omega)
        have w2 : IntKind.i64.wrap ((i : Int) + 1) = (i : Int) + 1 := IntWalk.i64_in _ (by omega)
        have hBwr : Aside0 (B ≤ wr.heap.size) := ⟨by obtain ⟨_, _, _, _, h, _⟩ := row_block HOz.out; omega⟩
        clear hz1 hz2 hC hxj hxi hjx HS hjl
        have hilt : i < n := by omega
        have hin : (i : Int) < (n : Int) := by omega
        cases hp : p xj with
        | true =>
          have HP := Aside0.mk hp
          clear hp
          have hcall := HF.out xj (wr.alloc (.cells #[.int .i64 xj.f0, .int .u64 xj.f1] 29)) (HBz.out.alloc hBwr.out _)
          rw [HP.out] at hcall
          go_wp2_with (go_at_fn g0; refine hcall.mono ?_; rintro e w4 ⟨rfl, hbd⟩)
          have hb4 := below_then (below_alloc (Below.refl wr.heap.size wr) (.cells #[.int .i64 xj.f0, .int .u64 xj.f1] 29)) (by simp) hbd
          go_roundw
          case rel => exact ⟨i, j + 1, zs, rfl, by go_num, by omega, by omega, ⟨Kd.R_below HOz.out hb4⟩, HZ, HD1, ⟨by rw [HT.out, HSS.out, HP.out]; simp⟩, ⟨below_then HBz.out hBwr.out hb4⟩⟩
          case measure => simp [intOf]; omega
        | false =>
          have HP := Aside0.mk hp
          clear hp
          have hcall := HF.out xj (wr.alloc (.cells #[.int .i64 xj.f0, .int .u64 xj.f1] 29)) (HBz.out.alloc hBwr.out _)
          rw [HP.out] at hcall
          go_wp2_with (first
            | (go_at_fn g0; refine hcall.mono ?_; rintro e w4 ⟨rfl, hbd⟩; have hb4 := below_then (below_alloc (Below.refl wr.heap.size wr) (.cells #[.int .i64 xj.f0, .int .u64 xj.f1] 29)) (by simp) hbd; have v0 := pw_cell_below hb4 u0; have v1 := pw_cell_below hb4 u1; have hx0 : w4.cell? ⟨wr.heap.size, 0, none⟩ = some (.int .i64 xj.f0) := pw_cell_below hbd (by go_simp); have hx1 : w4.cell? ⟨wr.heap.size, 1, none⟩ = some (.int .u64 xj.f1) := pw_cell_below hbd (by go_simp); have HO4 := Aside0.mk (Kd.R_below HOz.out hb4); have HB4 := Aside0.mk (below_then HBz.out hBwr.out hb4))
            | ((with_reducible refine gate_ (.store 29 (.tmp 33) (.tmp 32)) rfl ?_); refine Kd.R_store k29 B rfl rfl 29 (.tmp 33) (.tmp 32) rfl 29 (g := g) (n := n) (cap := cap) (o' := i * 2) (i : Int) 0 zs xj (.agg #[.int .i64 xj.f0, .int .u64 xj.f1]) [.int .i64 xj.f0, .int .u64 xj.f1] [.int .i64 xi.f0, .int .u64 xi.f1] (fun _ => True) (fun k => k ≠ g) rfl rfl rfl rfl (by kernel_rfl) (by simp [Value.oneCell']) HO4.out (by omega) hin rfl ?hcc (Nat.le_refl _) (k29_mkM _ _ _ xj) (fun k h => ⟨trivial, h⟩) HB4.out ?_; (case hcc => (intro q u hq; match q, hq with | 0, hq => (obtain rfl := Option.some.inj hq; exact v0) | 1, hq => (obtain rfl := Option.some.inj hq; exact v1) | q + 2, hq => (simp at hq))); intro w5 ho5 hb5 hg5; have HO5 := Aside0.mk ho5; have HB5 := Aside0.mk hb5; clear ho5 hb5 hg5))
          go_roundw
          case rel => exact ⟨i + 1, j + 1, zs.set i xj, by go_num, by go_num, by omega, by omega, HO5, ⟨by rw [List.length_set]; exact HZ.out⟩, ⟨by rw [drop_set_before _ _ _ _ (by omega)]; exact HD1.out⟩, ⟨by rw [take_set_same _ _ _ (by have := HZ.out; omega), HT.out, HSS.out, HP.out]; simp⟩, HB5⟩
          case measure => simp [intOf]; omega
      · obtain rfl : j = n := by omega
        obtain ⟨cur, hh, hcs, hnc, hBg, hcm⟩ := row_block HOz.out
        obtain ⟨i1, hi1, _, hs1, _⟩ := info_parts info29
        have hcut1 := cut_from (P := Try.prog) 22 29 .i64 Try.underlying22 hi1 2 hs1 (some ⟨g, 0, none⟩) j cap (i : Int) (by omega) (by omega)
        rw [if_neg (by simp; omega)] at hcut1
        simp only [Int.toNat_natCast, Option.map_some, add_plain] at hcut1
        obtain ⟨zz, hzz, hcl⟩ := clear_Pt wr g i j cap cur hh hcs (by omega) hnc
        have HFIN := Aside0.mk (R_cutset (i := i) (o := i * 2) HOz.out (by have := HZ.out; omega) zz (Nat.le_refl _) (by rw [hzz]; show i * 2 + (j - i) * 2 ≤ cap * 2; omega))
        have hcut2 := cut_to (P := Try.prog) 22 29 .i64 Try.underlying22 hi1 (some ⟨g, 0, none⟩) j cap (i : Int) (by omega) (by omega) hnc
        simp only [Int.toNat_natCast] at hcut2
        have HBF := Aside0.mk (below_setCells' HBz.out hBg zz (i * 2))
        clear hzz hh hcs hi1 hs1 hcm hnc hBg
        go_wp2
        go_ret
        exact ⟨_, rfl, by have h := HFIN.out; rw [HT.out] at h; rw [show l0.filter (fun x => !p x) = (l0.take j).filter (fun x => !p x) from by rw [List.take_of_length_le (by have := HN.out; omega)]]; exact h, HBF.out⟩

end Go.Proofs.Ytlnhecplmppldaa.Pr
