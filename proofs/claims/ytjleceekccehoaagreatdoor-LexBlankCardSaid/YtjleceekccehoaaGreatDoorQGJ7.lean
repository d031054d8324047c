/- Texts of this session, cut down to what one claim needs and joined: FfLeft, FfLeft2. -/
import Derived.Test.YtjleceekccehoaaGreatDoorQGJ6
section
set_option linter.unusedVariables false
set_option linter.unusedSimpArgs false
namespace Go.Proofs.YtjleceekccehoaaGreatDoor.Pr
open Go.RowKit Go.Proofs.YtjleceekccehoaaGreatDoor.Dec Go.Proofs.YtjleceekccehoaaGreatDoorW.PrintWords Go.Proofs.YtjleceekccehoaaGreatDoorW.PrintLast Go.Proofs.YtjleceekccehoaaGreatDoorW.PrintMore

def cutB (k : Nat) : ByteArray := ⟨(cheat k).2.toArray⟩
/-- The cheat sheet in memory. -/
structure LaidC (w : World) : Prop where
  tab : ∃ (b o c : Nat), w.cell? ⟨15, 0, none⟩ = some (.slice (some ⟨b, o, none⟩) 61 c) ∧ 61 ≤ c ∧ ∀ k, k < 61 → w.cell? ⟨b, o + k * 2, none⟩ = some (.int .i64 ((cheat k).1 : Nat)) ∧ w.cell? ⟨b, o + k * 2 + 1, none⟩ = some (.string (cutB k))
theorem LaidC.below {w w' : World} (h : LaidC w) (hb : Below w.heap.size w w') : LaidC w' := by
  obtain ⟨b, o, c, h1, h2, h3⟩ := h.tab
  exact ⟨b, o, c, pw_cell_below hb h1, h2, fun k hk => ⟨pw_cell_below hb (h3 k hk).1, pw_cell_below hb (h3 k hk).2⟩⟩
theorem DecB.rowC {w0 w : World} {g : Nat} {ds : List Int} {nd dp : Int} {ng tr : Bool} (h : DecB w0 w g ds nd dp ng tr) (m : Nat) (hm : m ≤ 800) : Kd.C (Kd.int .u8) w (some ⟨g, 0, none⟩) m (ds.take m) := by
  have hl := h.len
  refine ⟨by simp; omega, by omega, fun _ => ⟨_, rfl, fun j p hj => ⟨[.int .u8 p], rfl, rfl, fun q u hq => ?_⟩⟩⟩
  have hj1 : j < m := by
    rcases Nat.lt_or_ge j m with h | h
    · exact h
    · rw [List.getElem?_eq_none (by simp; omega)] at hj; cases hj
  rw [List.getElem?_take_of_lt hj1] at hj
  match q with
  | 0 =>
    obtain rfl : Value.int .u8 p = u := by simpa using hq
    have e : (⟨g, 0, none⟩ : Addr).add (j * (Kd.int .u8).sz + 0) = ⟨g, j, none⟩ := by
      show (⟨g, 0, none⟩ : Addr).add (j * 1 + 0) = _
      simp [Addr.add]
      try (intro h; exact h.symm)
    rw [e]
    exact h.dig _ _ hj
  | q + 1 => simp at hq
theorem cut_dig : ∀ k, k < 60 → ∀ c ∈ (cheat (k + 1)).2, 48 ≤ c.toNat ∧ c.toNat ≤ 57 := by
  intro k hk c hc
  have h := cheats_ok k hk
  simp only [cheatOk, Bool.and_eq_true, decide_eq_true_eq, List.all_eq_true] at h
  exact h.2 c hc
theorem pfx_l0 (cs : List UInt8) (hc : ∀ c ∈ cs, 48 ≤ c.toNat ∧ c.toNat ≤ 57) (l : List Int) (hl : ∀ x ∈ l, 48 ≤ x ∧ x ≤ 57) : ∀ (j i : Nat), i + j = cs.length → ∀ (bnd : cs.length < 100000), strconv_prefixIsLessThan.l0 (j + 1) l ⟨cs.toArray⟩ i = some (pfx ((l.drop i).map fun x => (x - 48).toNat) ((cs.drop i).map fun c => c.toNat - 48)) := by
  intro j
  induction j with
  | zero =>
    intro i hi bnd
    have e : cs.drop i = [] := List.drop_eq_nil_of_le (by omega)
    rw [e]
    have hs : (ByteArray.mk cs.toArray).size = cs.length := rfl
    rw [strconv_prefixIsLessThan.l0, if_neg (by rw [hs]; omega)]
    cases (l.drop i).map fun x => (x - 48).toNat <;> rfl
  | succ j ih =>
    intro i hi bnd
    have hs : (ByteArray.mk cs.toArray).size = cs.length := rfl
    have hic : i < cs.length := by omega
    rw [strconv_prefixIsLessThan.l0, if_pos (by rw [hs]; omega)]
    rw [List.drop_eq_getElem_cons hic, List.map_cons]
    by_cases hil : i < l.length
    · rw [if_neg (by omega), if_pos (by omega), if_pos (by omega)]
      rw [List.drop_eq_getElem_cons hil, List.map_cons]
      have hr : rd l (i : Int) = l[i] := by simp [rd, hil]
      have hb : bt ⟨cs.toArray⟩ (i : Int) = (cs[i].toNat : Int) := by
        simp [bt, hs, hic]
        rfl
      have h1 := hl l[i] (List.getElem_mem hil)
      have h2 := hc cs[i] (List.getElem_mem hic)
      rw [hr, hb]
      have hn := ih (i + 1) (by omega) bnd
      have hw : wrap64 ((i : Int) + 1) = ((i + 1 : Nat) : Int) := by unfold wrap64; omega
      rw [hw, hn]
      unfold pfx
      by_cases he : l[i] = (cs[i].toNat : Int)
      · rw [if_pos he, if_pos (by omega)]
        cases h3 : (l.drop (i + 1)).map fun x => (x - 48).toNat <;> cases h4 : (cs.drop (i + 1)).map fun c => c.toNat - 48 <;> simp [pfx]
      · rw [if_neg he, if_neg (by omega)]
        congr 1
        apply decide_eq_decide.2
        omega
    · rw [if_pos (by omega), List.drop_eq_nil_of_le (by omega)]
      rfl
theorem pfx_any (k : Nat) (h1 : 1 ≤ k) (h2 : k ≤ 60) (g : Nat) (ds : List Int) (n : Nat) (dp : Int) (ng tr : Bool) (hG : GoodD ds n) (w0 w : World) (h : DecB w0 w g ds n dp ng tr) :
    Calls Tryz.prog 170 #[.slice (some ⟨g, 0, none⟩) n 800, .string (cutB k)] w fun e w' => e = .returned (.bool (pfx (dl ds 0 n) (cutD k))) ∧ Drawn0 w w' := by
  have hc := cut_dig (k - 1) (by omega)
  rw [show k - 1 + 1 = k from by omega] at hc
  have hle := hG.le
  have hlen := hG.len
  have hl : ∀ x ∈ ds.take n, 48 ≤ x ∧ x ≤ 57 := by
    intro x hx
    obtain ⟨i, hi, rfl⟩ := List.mem_iff_getElem.1 hx
    have hi2 : i < n := by simp at hi; omega
    rw [List.getElem_take]
    exact hG.dig i _ hi2 (List.getElem?_eq_getElem (by omega))
  have hbnd : (cheat k).2.length < 100000 := by
    have := (cheat_spec k h1 h2).2.1
    simp [cutD] at this
    omega
  have hf := pfx_l0 (cheat k).2 hc (ds.take n) hl (cheat k).2.length 0 (by omega) hbnd
  have hr := h.rowC n hle
  have e : n = (ds.take n).length := by simp; omega
  have := strconv_prefixIsLessThan.calls ((cheat k).2.length + 1) (some ⟨g, 0, none⟩) 800 (ds.take n) (cutB k) (pfx (dl ds 0 n) (cutD k)) w (by rw [← e]; exact hr) (by rw [← e]; exact hle) (by
    unfold strconv_prefixIsLessThan.f
    simpa [dl, cutD, cutB] using hf)
  rw [← e] at this
  exact this

/-- The rows while a shift to the left goes on: below j as they were, from j + e on digits. -/
structure Lf (ds es : List Int) (n e j : Nat) : Prop where
  len : es.length = 800
  low : ∀ i, i < j → es[i]? = ds[i]?
  dig : ∀ i x, j + e ≤ i → i < n + e → es[i]? = some x → 48 ≤ x ∧ x ≤ 57
  fst : j = 0 → e = 0 → ∀ x y, ds[0]? = some x → es[0]? = some y → 2 * (x - 48) ≤ y - 48
theorem Lf.start {ds : List Int} {n e : Nat} (h : GoodD ds n) (hn : 1 ≤ n) : Lf ds ds n e n := ⟨h.len, fun _ _ => rfl, fun i x h1 h2 _ => by omega, fun h1 => by omega⟩
theorem Lf.step {ds es : List Int} {n e j : Nat} (h : Lf ds es n e (j + 1)) (r : Int) (h0 : 0 ≤ r) (h9 : r ≤ 9) (hf : j = 0 → e = 0 → ∀ x, ds[0]? = some x → 2 * (x - 48) ≤ r) : Lf ds (es.set (j + e) (r + 48)) n e j := by
  refine ⟨by simp [h.len], fun i hi => ?_, fun i x h1 h2 hx => ?_, fun h1 h2 x y hx hy => ?_⟩
  · rw [List.getElem?_set_ne (by omega)]; exact h.low i (by omega)
  · by_cases hi : i = j + e
    · subst hi
      rw [List.getElem?_set_self'] at hx
      cases h3 : es[j + e]? with
      | none => rw [h3] at hx; cases hx
      | some z => rw [h3] at hx; simp at hx; omega
    · rw [List.getElem?_set_ne (by omega)] at hx
      exact h.dig i x (by omega) h2 hx
  · subst h1 h2
    have := hf rfl rfl x hx
    have hlen := h.len
    rw [show 0 + 0 = 0 from rfl, List.getElem?_set_self (by omega)] at hy
    injection hy with hy
    omega
/-- The same behind all digits: from u on digits; the first one is known when u is 0. -/
structure Lg (ds es : List Int) (n e u : Nat) : Prop where
  len : es.length = 800
  dig : ∀ i x, u ≤ i → i < n + e → es[i]? = some x → 48 ≤ x ∧ x ≤ 57
  fst : u = 0 → e = 0 → ∀ x y, ds[0]? = some x → es[0]? = some y → 2 * (x - 48) ≤ y - 48
  one : u = 0 → 1 ≤ e → ∀ y, es[0]? = some y → y ≠ 48
theorem Lf.lg {ds es : List Int} {n e : Nat} (h : Lf ds es n e 0) : Lg ds es n e e := ⟨h.len, fun i x h1 h2 => h.dig i x (by omega) h2, fun h1 h2 => h.fst rfl h2, fun h1 h2 => by omega⟩
theorem Lg.step {ds es : List Int} {n e u : Nat} (h : Lg ds es n e (u + 1)) (he : u < e) (r : Int) (h0 : 0 ≤ r) (h9 : r ≤ 9) (hf : u = 0 → 1 ≤ r) : Lg ds (es.set u (r + 48)) n e u := by
  refine ⟨by simp [h.len], fun i x h1 h2 hx => ?_, fun h1 h2 x y hx hy => by omega, fun h1 h2 y hy => ?_⟩
  · by_cases hi : i = u
    · subst hi
      rw [List.getElem?_set_self'] at hx
      cases h3 : es[i]? with
      | none => rw [h3] at hx; cases hx
      | some z => rw [h3] at hx; simp at hx; omega
    · rw [List.getElem?_set_ne (by omega)] at hx
      exact h.dig i x (by omega) h2 hx
  · subst h1
    have := hf rfl
    have hlen := h.len
    rw [List.getElem?_set_self (by omega)] at hy
    injection hy with hy
    omega
theorem stripD_pos (ds : List Int) : ∀ (n : Nat), 1 ≤ n → (∀ x, ds[0]? = some x → x ≠ 48) → 0 < ds.length → 1 ≤ stripD ds n := by
  intro n
  induction n with
  | zero => intro h; omega
  | succ n ih =>
    intro _ hx hl
    unfold stripD
    split
    · rename_i h
      rcases Nat.eq_zero_or_pos n with h0 | h0
      · subst h0
        have := hx (ds[0]'hl) (List.getElem?_eq_getElem hl)
        simp [List.getD, List.getElem?_eq_getElem hl] at h
        omega
      · exact ih h0 hx hl
    · omega
theorem good_strip {es : List Int} {m : Nat} (hl : es.length = 800) (hm : m ≤ 800) (h1 : 1 ≤ m) (hd : ∀ i x, i < m → es[i]? = some x → 48 ≤ x ∧ x ≤ 57) (ho : ∀ x, es[0]? = some x → x ≠ 48) : GoodD es (stripD es m) ∧ 1 ≤ stripD es m := by
  have h2 := stripD_le es m
  have h3 := stripD_pos es m h1 ho (by omega)
  exact ⟨⟨hl, by omega, fun i x hi => hd i x (by omega), fun _ => ho⟩, h3⟩
/-- What a shift to the left leaves. -/
structure LeftR (w0 w' : World) (g : Nat) (ds : List Int) (dp : Int) (ng : Bool) (es : List Int) (m : Nat) (e : Nat) (tr' : Bool) : Prop where
  dec : DecB w0 w' g es m (dp + e) ng tr'
  good : GoodD es m
  pos : 1 ≤ m
  few : e ≤ 19
  fst : e = 0 → ∀ x y, ds[0]? = some x → es[0]? = some y → 2 * (x - 48) ≤ y - 48
theorem more_le (k : Nat) (h1 : 1 ≤ k) (h2 : k ≤ 60) (l : List Nat) : more k l ≤ 19 := by
  have h : ((List.range 60).all fun k => decide ((cheat (k + 1)).1 ≤ 19)) = true := by decide +kernel
  have := of_decide_eq_true (List.all_eq_true.1 h (k - 1) (List.mem_range.2 (by omega)))
  rw [show k - 1 + 1 = k from by omega] at this
  unfold more; split <;> omega
end Go.Proofs.YtjleceekccehoaaGreatDoor.Pr
end

section
set_option linter.unusedVariables false
set_option linter.unusedSimpArgs false
namespace Go.Proofs.YtjleceekccehoaaGreatDoor.Pr
open Go.RowKit Go.Proofs.YtjleceekccehoaaGreatDoor.Dec Go.Proofs.YtjleceekccehoaaGreatDoorW.PrintWords Go.Proofs.YtjleceekccehoaaGreatDoorW.PrintLast Go.Proofs.YtjleceekccehoaaGreatDoorW.PrintMore

set_option maxHeartbeats 4000000 in
set_option maxRecDepth 100000 in
theorem left_any (k : Nat) (k1 : 1 ≤ k) (k2 : k ≤ 60) (g : Nat) (ds : List Int) (n : Nat) (dp : Int) (ng tr : Bool) (hG : GoodD ds n) (hn : 1 ≤ n) (d1 : -1000000000 ≤ dp) (d2 : dp ≤ 1000000000) (w0 w : World) (h : DecB w0 w g ds n dp ng tr) (hC : LaidC w0) :
    Calls Tryz.prog 143 #[.pointer (some ⟨g, 0, none⟩), .int .u64 k] w fun e w' => e = .returned (.tuple #[]) ∧ ∃ es m e tr', LeftR w0 w' g ds dp ng es m e tr' := by
  obtain ⟨cb, co, c, hc1, hc2, hc3⟩ := hC.tab
  have hk := hc3 k (by omega)
  have c1 := pw_cell_below h.bel hc1
  have c2 := pw_cell_below h.bel hk.1
  have c3 := pw_cell_below h.bel hk.2
  have c4 := h.nd_
  have HB := Aside0.mk h
  have HG := Aside0.mk hG
  have n8 := hG.le
  have HM := Aside0.mk (more_le k k1 k2 (dl ds 0 n))
  obtain ⟨b, hb⟩ : ∃ b, pfx (dl ds 0 n) (cutD k) = b := ⟨_, rfl⟩
  obtain ⟨d, hd⟩ : ∃ d, (cheat k).1 = d := ⟨_, rfl⟩
  have d3 : 1 ≤ d := by rw [← hd]; exact (cheat_spec k k1 k2).2.2.1
  have d20 : d ≤ 20 := by have := HM.out; unfold more at this; rw [hd] at this; split at this <;> omega
  have hmore : more k (dl ds 0 n) = if b = true then d - 1 else d := by rw [← hb, ← hd]; rfl
  obtain ⟨e, he⟩ : ∃ e, more k (dl ds 0 n) = e := ⟨_, rfl⟩
  have he2 : (e : Int) = if b = true then (d : Int) - 1 else d := by rw [← he, hmore]; cases b <;> simp <;> omega
  rw [hd] at c2
  have e19 : e ≤ 19 := by rw [← he]; exact HM.out
  have HE := Aside0.mk he
  have HBB := Aside0.mk hb
  clear hc1 hc2 hc3 hk h hG hmore hd hC hb he
  have HP : ∀ w1, DecB w0 w1 g ds n dp ng tr → Calls Tryz.prog 170 #[.slice (some ⟨g, 0, none⟩) n 800, .string (cutB k)] w1 fun e w' => e = .returned (.bool b) ∧ ∃ m, w' = w1.drewN m := fun w1 h1 => by rw [← HBB.out]; exact (pfx_any k k1 k2 g ds n dp ng tr HG.out w0 w1 h1).mono fun _ _ hq => ⟨hq.1, hq.2.out⟩
  have HPA := Aside0.mk HP
  clear HP
  have z1 : (k : Int) < 61 := by omega
  have z0 : (0 : Int) ≤ (k : Int) := by omega
  have z2 : (n : Int) ≤ 800 := by omega
  have z3 : (0 : Int) ≤ (n : Int) := by omega
  have N0 : Aside0 (n + e ≤ 900) := ⟨by omega⟩
  have HE2 := Aside0.mk he2
  clear he2
  cases b
  all_goals
    first
      | (have hde : e = d := by have := HE2.out; simp at this; omega
         subst hde)
      | (have hde : d = e + 1 := by have := HE2.out; simp at this; omega
         subst hde)
    go_enter Tryz.func143, Tryz.ntmps143
    go_wp2_with fail
    go_quiet ((go_at_call 170; exact Calls.quiet_of (HPA.out _ (HB.out.below (by repeat (first | (with_reducible exact Below.refl _ _) | apply pw_below_drewN | apply below_drew1 | exact Below.refl _ _))))))
    go_wp2_with fail
    go_loopg [5, 6, 7] n (fun j v5 v6 v7 wr => v5 = .int .i64 ((j : Int) - 1) ∧ v6 = .int .i64 ((j : Int) + (e : Int)) ∧ v7 = .int .u64 (carry k (dl ds j n) : Nat) ∧ j ≤ n ∧ Aside0 (∃ es tr', DecB w0 wr g es n dp ng tr' ∧ Lf ds es n e j))
    case atStart => exact ⟨rfl, by have he2 := HE2.out; simp at he2; go_num, by rw [dl_self ds n (by have := HB.out.len; omega)]; simp [carry, val], Nat.le_refl _, ⟨ds, tr, HB.out.below (by repeat (first | (with_reducible exact Below.refl _ _) | apply pw_below_drewN | apply below_drew1 | exact Below.refl _ _)), Lf.start HG.out hn⟩⟩
    case round =>
      obtain ⟨h5, h6, h7, hj, HR⟩ := hrel
      cases gk with
      | zero =>
        obtain ⟨es, tr', hB, hF⟩ := HR.out
        have hc0 := left_hi k k1 k2 (dl ds 0 n) (dl_dig HG.out 0)
        have hc1 : 1 ≤ e → 10 ^ (e - 1) ≤ carry k (dl ds 0 n) := fun h1 => by
          have := left_lo k k1 k2 (dl ds 0 n) (dl_dig HG.out 0) (dl_hi HG.out hn) (by rw [dl_len ds 0 n (by have := HG.out.len; omega)]; omega)
          rw [HE.out] at this
          exact this h1
        rw [HE.out] at hc0
        obtain ⟨N, hN⟩ : ∃ N, carry k (dl ds 0 n) = N := ⟨_, rfl⟩
        have hN64 : (N : Int) ≤ 18446744073709551615 := by
          have h1 := carry_lt k (dl ds 0 n) (dl_dig HG.out 0)
          have h2 := (pow60 k k2).2
          omega
        rw [hN] at h7 hc0 hc1
        have HCC := Aside0.mk (And.intro hc0 hc1)
        have hB2 := Aside0.mk hB
        have hF2 := Aside0.mk hF
        have q1 : (((0 : Nat) : Int) - 1) = -1 := by omega
        have q2 : (((0 : Nat) : Int) + (e : Int)) = (e : Int) := by omega
        rw [q1] at h5
        rw [q2] at h6
        clear HR hB hF hc0 hc1 hN q1 q2
        subst h5 h6 h7
        go_wp2_with fail
        go_loopg [6, 7] e (fun u v6 v7 wr => v6 = .int .i64 (u : Int) ∧ u ≤ e ∧ (∃ m : Nat, v7 = .int .u64 (m : Int) ∧ m ≤ N ∧ Aside0 (m < 10 ^ u ∧ (1 ≤ u → 10 ^ (u - 1) ≤ m))) ∧ Aside0 (∃ es tr', DecB w0 wr g es n dp ng tr' ∧ Lg ds es n e u))
        case atStart => exact ⟨rfl, Nat.le_refl _, ⟨N, rfl, Nat.le_refl _, HCC⟩, ⟨es, tr', hB2.out, hF2.out.lg⟩⟩
        case round =>
          obtain ⟨h6, hu, ⟨m, h7, hmN, HMM⟩, HR⟩ := hrel
          clear hB2 hF2
          obtain ⟨es', tr'', hB, hF⟩ := HR.out
          cases gk with
          | zero =>
            have hm0 : m = 0 := by have := HMM.out.1; simp at this; omega
            obtain ⟨x0, hx0⟩ : ∃ x, ds[0]? = some x := ⟨ds[0]'(by have := HG.out.len; omega), List.getElem?_eq_getElem (by have := HG.out.len; omega)⟩
            have hx1 := HG.out.dig 0 x0 (by omega) hx0
            have hx2 := HG.out.one (by omega) x0 hx0
            have ho : ∀ y, es'[0]? = some y → y ≠ 48 := by
              intro y hy
              rcases Nat.eq_zero_or_pos e with h0 | h0
              · have := hF.fst rfl h0 x0 y hx0 hy
                omega
              · exact hF.one rfl h0 y hy
            have hgood : ∀ M, M ≤ 800 → 1 ≤ M → M ≤ n + e → GoodD es' (stripD es' M) ∧ 1 ≤ stripD es' M := fun M m1 m2 m3 => good_strip hF.len m1 m2 (fun i x hi hx => hF.dig i x (by omega) (by omega) hx) ho
            have HO := Aside0.mk hgood
            have hB2 := Aside0.mk hB
            have hF2 := Aside0.mk hF
            have f1 := hB.froz 800
            have f2 := hB.froz 801
            have cy := hB.nd_
            have cz := hB.dp_
            have q2 : (((0 : Nat) : Int)) = 0 := rfl
            clear HR hB hF HMM hgood ho hx0 hx1 hx2
            subst hm0 h6 h7
            have e1 : (n : Int) + (e : Int) = ((n + e : Nat) : Int) := by omega
            obtain ⟨T, hT⟩ : ∃ T, n + e = T := ⟨_, rfl⟩
            have q3 : (n : Int) + (e : Int) = (T : Int) := by omega
            have q4 : (T : Int) ≤ 900 := by have := N0.out; omega
            have HT := Aside0.mk hT
            have E19 : (e : Int) ≤ 19 := by omega
            clear hT e1
            by_cases hcl : T ≥ 800
            · have q5 : (T : Int) ≥ 800 := by omega
              go_wp2_with (go_at_call 142; refine (trim_any g es' 800 (dp + e) ng tr'' (by omega) w0 _ (((hB2.out.setNd _).setNd 800).setDp _)).mono ?_; rintro e_ w' ⟨rfl, hb_⟩)
              go_end0
              have hgd := HO.out 800 (by omega) (by omega) (by have := HT.out; omega)
              exact ⟨rfl, es', _, e, tr'', ⟨by rw [if_neg (by omega)] at hb_; exact hb_, hgd.1, hgd.2, e19, hF2.out.fst rfl⟩⟩
            · have q5 : ¬ ((T : Int) ≥ 800) := by omega
              go_wp2_with (go_at_call 142; refine (trim_any g es' T (dp + e) ng tr'' (by omega) w0 _ ((hB2.out.setNd _).setDp _)).mono ?_; rintro e_ w' ⟨rfl, hb_⟩)
              go_end0
              have hgd := HO.out T (by omega) (by have := HT.out; omega) (by have := HT.out; omega)
              exact ⟨rfl, es', _, e, tr'', ⟨by rw [if_neg (by omega)] at hb_; exact hb_, hgd.1, hgd.2, e19, hF2.out.fst rfl⟩⟩
          | succ u =>
            have hm1 : 1 ≤ m := by
              have := HMM.out.2 (by omega)
              have h2 : 0 < 10 ^ (u + 1 - 1) := Nat.pow_pos (by decide)
              omega
            have hlo := lo_step m u HMM.out.1 (by have := HMM.out.2 (by omega); rwa [Nat.add_sub_cancel] at this)
            have HLO := Aside0.mk hlo
            have hf0 : Aside0 (u = 0 → 1 ≤ (m : Int) - 10 * ((m : Int) / 10)) := ⟨by
              intro hu0
              have := HMM.out.1
              rw [hu0] at this
              simp at this
              omega⟩
            have hB2 := Aside0.mk hB
            have hF2 := Aside0.mk hF
            have q2 : (((u + 1 : Nat) : Int)) - 1 = (u : Int) := by omega
            have f1 := hB.froz u
            obtain ⟨y, hy⟩ : ∃ y, es'[u]? = some y := ⟨es'[u]'(by have := hB.len; omega), List.getElem?_eq_getElem (by have := hB.len; omega)⟩
            have cy := hB.dig u y hy
            have q6 : (u : Int) < 800 := by omega
            have q7 : (0 : Int) ≤ (u : Int) := by omega
            have q8 : (m : Int) > 0 := by omega
            have q9 : (m : Int) ≤ 18446744073709551615 := by omega
            clear HR hB hF hlo hy HMM
            subst h6 h7
            go_wp2_with fail
            go_roundg u
            case measure => omega
            case rel => exact ⟨by go_num, by omega, ⟨m / 10, by go_num, by omega, HLO⟩, ⟨_, tr'', hB2.out.setDig u (by omega) _, hF2.out.step (by omega) _ (by omega) (by omega) hf0.out⟩⟩
      | succ j =>
        obtain ⟨es, tr', hB, hF⟩ := HR.out
        obtain ⟨x, hx⟩ : ∃ x, ds[j]? = some x := ⟨ds[j]'(by have := HG.out.len; omega), List.getElem?_eq_getElem (by have := HG.out.len; omega)⟩
        have hxd := HG.out.dig j x (by omega) hx
        have cx := hB.dig j x ((hF.low j (by omega)).trans hx)
        have HX := Aside0.mk hx
        have hB2 := Aside0.mk hB
        have hF2 := Aside0.mk hF
        have q1 : ((((j + 1 : Nat) : Int)) - 1) = (j : Int) := by omega
        have q2 : ((((j + 1 : Nat) : Int)) + (e : Int)) = ((j + e + 1 : Nat) : Int) := by omega
        rw [q1] at h5
        obtain ⟨W, hW⟩ : ∃ W, j + e = W := ⟨_, rfl⟩
        rw [q2, hW] at h6
        have HW := Aside0.mk hW
        obtain ⟨N, hN⟩ : ∃ N, carry k (dl ds (j + 1) n) = N := ⟨_, rfl⟩
        rw [hN] at h7
        have hd9 : (x - 48).toNat ≤ 9 := by omega
        have bd := lq_bd k k2 (x - 48).toNat hd9 (dl ds (j + 1) n) (dl_dig HG.out (j + 1))
        have cc := carry_cons k (x - 48).toNat (dl ds (j + 1) n)
        rw [← dl_cons ds j n x (by omega) hx, hN] at cc
        rw [hN] at bd
        obtain ⟨M, hM⟩ : ∃ M, (x - 48).toNat * 2 ^ k = M := ⟨_, rfl⟩
        rw [hM] at bd cc
        have hS : IntKind.u64.wrap ((x - 48) * 2 ^ k) = (M : Int) := by
          have e1 : (x - 48) * 2 ^ k = (M : Int) := by
            rw [← hM, Int.natCast_mul, Int.toNat_of_nonneg (by omega)]
            simp
          rw [e1, IntWalk.u64_in _ (by omega)]
        have hfst : Aside0 (j = 0 → e = 0 → ∀ x, ds[0]? = some x → 2 * (x - 48) ≤ ((N : Int) + M) - 10 * (((N : Int) + M) / 10)) := ⟨by
          intro hj0 he0 y hy
          subst hj0
          rw [hx] at hy
          injection hy with hy
          have hc0 := left_hi k k1 k2 (dl ds 0 n) (dl_dig HG.out 0)
          rw [HE.out, he0] at hc0
          have hc1 : carry k ((x - 48).toNat :: dl ds (0 + 1) n) = 0 := by rw [← dl_cons ds 0 n x (by omega) hx]; omega
          have := left_first k (x - 48).toNat (dl ds (0 + 1) n) hc1 k1
          rw [hN, hM] at this
          omega⟩
        have CC := Aside0.mk cc
        clear HR hN cc hM hB hF hx hd9 q1 q2 hW
        subst h5 h6 h7
        have q3 : (0 : Int) ≤ (j : Int) := by omega
        have q4 : (j : Int) < 800 := by omega
        have bd2 : (N : Int) + (M : Int) ≤ 18446744073709551615 := by omega
        clear bd
        by_cases hw : W < 800
        · have q6 : (W : Int) < 800 := by omega
          have q7 : (0 : Int) ≤ (W : Int) := by omega
          have f1 := hB2.out.froz W
          obtain ⟨y, hy⟩ : ∃ y, es[W]? = some y := ⟨es[W]'(by have := hB2.out.len; omega), List.getElem?_eq_getElem (by have := hB2.out.len; omega)⟩
          have cy := hB2.out.dig W y hy
          clear hy
          go_wp2_with fail
          go_roundg j
          case measure => omega
          case rel => exact ⟨by go_num, by have := HW.out; go_num, by rw [CC.out]; go_num, by omega, ⟨_, tr', hB2.out.setDig W hw _, by rw [← HW.out]; exact hF2.out.step _ (by omega) (by omega) hfst.out⟩⟩
        · have q6 : ¬ ((W : Int) < 800) := by omega
          have q7 : (W : Int) ≤ 900 := by have := HW.out; have := N0.out; omega
          have f1 := hB2.out.froz 803
          have cy := hB2.out.tr_
          have hset : ∀ r, es.set W r = es := fun r => List.set_eq_of_length_le (by have := hB2.out.len; omega)
          have HSET := Aside0.mk hset
          clear hset
          go_wp2_with fail
          all_goals
            go_roundg j
            case measure => omega
            case rel => exact ⟨by go_num, by have := HW.out; go_num, by rw [CC.out]; go_num, by omega, ⟨_, _, by first | exact hB2.out.setTr true | exact hB2.out, by have := hF2.out.step _ (by omega) (by omega) hfst.out; rw [HW.out, HSET.out] at this; exact this⟩⟩
end Go.Proofs.YtjleceekccehoaaGreatDoor.Pr
end
