/- Texts of this session, cut down to what one claim needs and joined: LbSort, LbSortW. -/
import Derived.Test.YtfbockgjhbfidaaGreatDoorQGOrd
import Derived.Test.YtfbockgjhbfidaaGreatDoorQGDel
import Derived.Shelf.SlSortCmp.WholeK
import Derived.WalkMore
section
set_option linter.unusedVariables false
set_option linter.unusedSimpArgs false
namespace Go.Proofs.YtfbockgjhbfidaaGreatDoor.Pr
open Go.RowKit Go.Proofs.YtfbockgjhbfidaaGreatDoorW.PrintWords Go.Proofs.YtfbockgjhbfidaaGreatDoorW.PrintLast Go.Proofs.YtfbockgjhbfidaaGreatDoorW.PrintMore

instance : Inhabited S44 := ⟨z44⟩
def encL (x : S44) : List Value := [.string x.f0, .string x.f1]
theorem flat_len : ∀ l : List S44, (l.flatMap encL).length = l.length * 2
 | [] => rfl
 | x :: r => by rw [List.flatMap_cons, List.length_append, flat_len r, List.length_cons]; simp [encL]; omega
theorem flat_get : ∀ (l : List S44) (t : Nat), t < l.length * 2 → (l.flatMap encL)[t]? = (encL (l.getD (t / 2) z44))[t % 2]?
 | [], t, h => by simp at h
 | x :: r, 0, _ => rfl
 | x :: r, 1, _ => rfl
 | x :: r, t + 2, h => by
  have ih := flat_get r t (by rw [List.length_cons] at h; omega)
  have e1 : (t + 2) / 2 = t / 2 + 1 := by omega
  have e2 : (t + 2) % 2 = t % 2 := by omega
  rw [e1, e2, List.getD_cons_succ, ← ih]
  rfl
theorem flat_drop : ∀ (l : List S44) (j : Nat) (p : S44), l[j]? = some p → ((l.flatMap encL).drop (j * 2)).take 2 = encL p
 | [], j, p, h => by simp at h
 | x :: r, 0, p, h => by
  obtain rfl : x = p := by simpa using h
  rfl
 | x :: r, j + 1, p, h => by
  have ih := flat_drop r j p (by simpa using h)
  rw [List.flatMap_cons, show (j + 1) * 2 = 2 + j * 2 from by omega, ← List.drop_drop]
  exact ih
theorem flat_reps (w : World) (B : Nat) (ok : Nat → Prop) (l : List S44) : Reps (k44.M w B ok) 2 l (l.flatMap encL) :=
 ⟨flat_len l, fun j p hj => by rw [flat_drop l j p hj]; exact k44_mkM w B ok p⟩
theorem reps_flat {w : World} {B : Nat} {ok : Nat → Prop} {l : List S44} {cs : List Value} (h : Reps (k44.M w B ok) 2 l cs) : cs = l.flatMap encL := by
 apply List.ext_getElem?
 intro t
 by_cases ht : t < l.length * 2
 ·have hj : t / 2 < l.length := by omega
  have h1 := k44_openM (h.2 (t / 2) l[t / 2] (by simp [hj]))
  rw [flat_get l t ht]
  have h2 := congrArg (·[t % 2]?) h1
  simp only [List.getElem?_take, List.getElem?_drop] at h2
  rw [if_pos (by omega), show t / 2 * 2 + t % 2 = t from by omega] at h2
  rw [h2]
  simp [encL, List.getD, hj]
 ·rw [List.getElem?_eq_none (by rw [h.1]; omega), List.getElem?_eq_none (by rw [flat_len]; omega)]
theorem flatK_eq (l : List S44) : Go.Sort.flatK encL 2 l.toArray = (l.flatMap encL).toArray := by
 apply Array.ext_getElem?
 intro t
 by_cases ht : t < l.length * 2
 ·have h1 := Go.Sort.get_flatK encL 2 l.toArray t (by simpa using ht)
  rw [getElem!_pos _ t (by rw [Go.Sort.size_flatK]; simpa using ht)] at h1
  rw [Array.getElem?_eq_getElem (by rw [Go.Sort.size_flatK]; simpa using ht), h1, List.getElem?_toArray, flat_get l t ht]
  have hj : t / 2 < l.length := by omega
  have hm : t % 2 = 0 ∨ t % 2 = 1 := by omega
  rcases hm with hm | hm <;> simp [hm, encL, List.getD, hj]
 ·rw [Array.getElem?_eq_none (by rw [Go.Sort.size_flatK]; simp; omega), List.getElem?_toArray, List.getElem?_eq_none (by rw [flat_len]; omega)]
theorem setMany_all : ∀ (vs : List Value) (F : Array Value) (s : Nat), s + vs.length ≤ F.size → (Go.Sort.setMany F s vs).toList = F.toList.take s ++ vs ++ F.toList.drop (s + vs.length)
 | [], F, s, h => by simp [Go.Sort.setMany]
 | v :: r, F, s, h => by
  rw [List.length_cons] at h
  rw [Go.Sort.setMany, setMany_all r _ (s + 1) (by rw [Array.size_setIfInBounds]; omega), Array.toList_setIfInBounds, take_set_same _ _ _ (by rw [Array.length_toList]; omega), drop_set_before _ _ _ _ (by omega), List.length_cons]
  simp [Nat.add_assoc, Nat.add_comm 1]

/-- What a row of labels reads as is held. -/
theorem holds_of_R {e n cap g : Nat} {W : World} {base : Nat} {ok : Nat → Prop} {xs : List S44} (h : k44.R e W base ok (.slice (some ⟨g, 0, none⟩) n cap) xs) : Go.Sort.HoldsK encL 2 W g 0 xs.toArray ∧ g < W.heap.size ∧ base ≤ g ∧ n = xs.length := by
 obtain ⟨h0, inner, hown, hr⟩ := h
 have hin := reps_flat hr
 subst hin
 rcases hown.2 with ⟨hv, _⟩ | ⟨g', cap', cur, hv, hb, hh, hnc, hcm, hcs, ht⟩
 ·cases hv
 ·injection hv with ha hn hc
  injection ha with ha
  injection ha with hg'
  subst hg'
  refine ⟨?_, ?_, hb, hn⟩
  ·unfold Go.Sort.HoldsK
   rw [flatK_eq]
   intro j hj
   rw [List.size_toArray, flat_len] at hj
   rw [Nat.zero_add, cell_of_row W g j cur e (0, 0) hh]
   refine ⟨?_, blk_frozen hh _⟩
   have h1 := congrArg (·[j]?) ht
   simp only [List.getElem?_take] at h1
   have hsz : k44.sz = 2 := rfl
   rw [hsz, if_pos hj] at h1
   rw [← Array.getElem?_toList, h1, getElem!_pos _ j (by rw [List.size_toArray, flat_len]; exact hj)]
   rw [List.getElem_toArray, List.getElem?_eq_getElem]
   rfl
  ·rcases Nat.lt_or_ge g W.heap.size with h' | h'
   ·exact h'
   ·rw [Array.getElem?_eq_none h'] at hh; cases hh
theorem R_setall {e n cap g : Nat} {W : World} {base : Nat} {ok : Nat → Prop} {xs : List S44} (h : k44.R e W base ok (.slice (some ⟨g, 0, none⟩) n cap) xs) (l' : List S44) (hl : l'.length = xs.length) :
  k44.R e (W.setCells g 0 (l'.flatMap encL)) base ok (.slice (some ⟨g, 0, none⟩) n cap) l' := by
 obtain ⟨h0, inner, hown, hr⟩ := h
 refine ⟨h0, l'.flatMap encL, ?_, flat_reps _ _ _ l'⟩
 rw [hl]
 have hsz : k44.sz = 2 := rfl
 obtain ⟨h1, h2⟩ := hown
 refine ⟨by rw [flat_len, hl, hsz], ?_⟩
 rcases h2 with ⟨hv, _⟩ | ⟨g', cap', cur, hv, hb, hh, hnc, hcm, hcs, ht⟩
 ·cases hv
 ·injection hv with ha hn hc
  injection ha with ha
  injection ha with hg'
  subst hg'; subst hc; subst hn
  obtain ⟨cur', hh', hs', hcur⟩ := setCells_row (l'.flatMap encL) 0 W cur hh (by rw [flat_len, hl, hcs, hsz]; have := Nat.mul_le_mul_right 2 hnc; omega)
  refine .inr ⟨g, cap, cur', rfl, hb, hh', hnc, hcm, by rw [hs', hcs], ?_⟩
  rw [hcur, hsz, List.take_zero, List.nil_append, List.take_append_of_le_length (by rw [flat_len, hl]; exact Nat.le_refl _), List.take_of_length_le (by rw [flat_len, hl]; exact Nat.le_refl _)]
theorem putRow_setCells (W : World) (g : Nat) (d l' : List S44) (hh : Go.Sort.HoldsK encL 2 W g 0 d.toArray) (hl : l'.length = d.length) : Go.Sort.putRowK encL 2 W g 0 l'.toArray = W.setCells g 0 (l'.flatMap encL) := by
 unfold Go.Sort.putRowK
 have h1 := Go.Sort.setCells_putRow W g 0 (l'.flatMap encL) 0 (Go.Sort.flatK encL 2 d.toArray) (by rw [Go.Sort.size_flatK, flat_len, hl]; simp)
 rw [Go.Sort.putRow_self id W g 0 _ hh] at h1
 rw [Nat.add_zero] at h1
 rw [h1, flatK_eq]
 congr 1
 apply Array.ext'
 rw [setMany_all _ _ _ (by rw [Go.Sort.size_flatK, flat_len, hl]; simp), List.take_zero, List.nil_append, List.drop_of_length_le (by rw [Array.length_toList, Go.Sort.size_flatK, flat_len, hl]; simp), List.append_nil]

theorem swoL : Go.Sort.SWO (Go.Proofs.ltOf cmpL) where
 irrefl x := by
  have := cmpL_neg x x
  exact decide_eq_false (by omega)
 trans x y z h1 h2 := by
  have h1 := of_decide_eq_true h1
  have h2 := of_decide_eq_true h2
  apply decide_eq_true
  rcases Int.lt_or_le (cmpL x z) 0 with h | h
  ·exact h
  ·have a := cmpL_trans (x := z) (y := x) (z := y) (by rw [cmpL_neg]; omega) (by omega)
   rw [cmpL_neg] at a
   omega
 ntrans x y z h1 h2 := by
  have h1 := of_decide_eq_false h1
  have h2 := of_decide_eq_false h2
  apply decide_eq_false
  have a := cmpL_trans (x := z) (y := y) (z := x) (by rw [cmpL_neg]; omega) (by rw [cmpL_neg]; omega)
  rw [cmpL_neg] at a
  omega
def Sorted (l : List S44) : Prop := l.Pairwise fun x y => cmpL x y ≤ 0
end Go.Proofs.YtfbockgjhbfidaaGreatDoor.Pr
end

section
set_option linter.unusedVariables false
set_option linter.unusedSimpArgs false
namespace Go.Proofs.YtfbockgjhbfidaaGreatDoor.Pr
open Go.RowKit Go.Proofs.YtfbockgjhbfidaaGreatDoorW.PrintWords Go.Proofs.YtfbockgjhbfidaaGreatDoorW.PrintLast Go.Proofs.YtfbockgjhbfidaaGreatDoorW.PrintMore

theorem below_sgrow (w : World) (k : Nat) (os : Array Obj) : Below w.heap.size w (Go.Sort.grow (w.drewN k) os) :=
 ⟨rfl, rfl, rfl, by simp [Go.Sort.grow], fun j hj => by simp [Go.Sort.grow, Array.getElem?_append, hj]⟩
theorem perm_of (l l' : List S44) (h : Go.Sort.PermIn 0 l.toArray.size l.toArray l'.toArray) : l'.Perm l := by
 obtain ⟨hs, _, hp⟩ := h
 simp only [List.size_toArray] at hs hp
 have e1 : (l'.toArray.extract 0 l.length).toList = l' := by simp [← hs]
 have e2 : (l.toArray.extract 0 l.length).toList = l := by simp
 rw [e1, e2] at hp
 exact hp
theorem sorted_of (l : List S44) (h : Go.Sort.SortedIn (Go.Proofs.ltOf cmpL) 0 l.length l.toArray) : Sorted l := by
 unfold Sorted
 rw [List.pairwise_iff_getElem]
 intro i j hi hj hij
 have h1 := of_decide_eq_false (h i j (Nat.zero_le _) hij hj)
 rw [getElem!_pos _ j (by simpa using hj), getElem!_pos _ i (by simpa using hi)] at h1
 simp only [List.getElem_toArray] at h1
 rw [cmpL_neg] at h1
 omega

set_option maxHeartbeats 4000000 in
set_option maxRecDepth 100000 in
theorem sort_Lb (B : Nat) (W w : World) (HB : Below B W w) (hBw : B ≤ w.heap.size) (v : Value) (l : List S44) (HO : Kd.R k44 44 w B (fun _ => True) v l) (hb : l.length < 4611686018427387904) :
  Calls Tryz.prog 37 #[v, .func (.func 38) #[] #[]] w fun e w' => e = .returned (.tuple #[]) ∧ ∃ l' : List S44, l'.Perm l ∧ Sorted l' ∧ Kd.R k44 44 w' B (fun _ => True) v l' ∧ Below B W w' := by
 by_cases hv : v = .slice none 0 0
 ·subst hv
  have hl : l = [] := by
   obtain ⟨A, c, e, hc, hC⟩ := Kd.R_reads HO
   injection e with _ e2 _
   exact List.eq_nil_of_length_eq_zero e2.symm
  subst hl
  clear HO hb
  have HBB := Aside0.mk HB
  have HBW := Aside0.mk hBw
  clear HB hBw
  go_enter Tryz.func37, Tryz.ntmps37
  go_wp2
  refine wp_loop_rounds 1 ?_
  rw [rounds_succ]
  go_wp2
  refine wp_loop_rounds 1 ?_
  rw [rounds_succ]
  go_wp2
  go_end0
  go_wp2
  refine bodyPost_ret (results_none rfl _ _ _) rfl ?_
  go_wp2
  go_end0
  exact ⟨rfl, [], List.Perm.refl _, List.Pairwise.nil, Kd.R_nil _ _ _ _ _, by first | exact HBB.out | exact pw_below_drewN HBB.out _⟩
 ·obtain ⟨g, n, cap, rfl⟩ : ∃ g n cap, v = .slice (some ⟨g, 0, none⟩) n cap := by
   obtain ⟨_, inner, hown, _⟩ := HO
   rcases hown.2 with ⟨h, _⟩ | ⟨g, cap, cur, h, _⟩
   ·exact absurd h hv
   ·exact ⟨g, _, cap, h⟩
  obtain ⟨hH, hg, hbg, hn⟩ := holds_of_R HO
  subst hn
  have eg : ∀ args w, (callFunc 38 args).run Tryz.prog w = .ok (.enter 38 args) w := enters_of Tryz.func38 (by kernel_rfl) rfl
  have hcon := Go.Proofs.AnyQ.slices_SortFunc Tryz.sortLb 2 Tryz.isAgg44 Tryz.sizeOf44 encL (fun _ => rfl) (fun x v hv => by simp [encL] at hv; rcases hv with rfl | rfl <;> rfl) cmpL swoL 38 #[] g 0 cap l.toArray w eg (fun m os dk hs x y => by_any x y _) hH hg (by simpa using hb)
  change Calls Tryz.prog 37 _ _ _ at hcon
  simp only [List.size_toArray] at hcon
  refine hcon.mono ?_
  rintro e w' ⟨rfl, d', m, os, hp, hs, rfl⟩
  obtain ⟨l', rfl⟩ : ∃ l', d' = List.toArray l' := ⟨d'.toList, by simp⟩
  have hlen : l'.length = l.length := by have := hp.1; simpa using this
  refine ⟨rfl, l', perm_of l l' (by simpa using hp), sorted_of l' (by rw [hlen]; exact hs), ?_⟩
  have hH2 : Go.Sort.HoldsK encL 2 (w.drewN m) g 0 l.toArray := hH
  have e1 : Go.Proofs.sortWorldK encL 2 w g 0 m l'.toArray os = Go.Sort.grow ((w.drewN m).setCells g 0 (l'.flatMap encL)) os := by
   unfold Go.Proofs.sortWorldK
   rw [← putRow_setCells (w.drewN m) g l l' hH2 hlen]
   rfl
  rw [e1]
  have hR := R_setall (Kd.R_drewN HO m) l' hlen
  have hb1 : Below B W ((w.drewN m).setCells g 0 (l'.flatMap encL)) := below_setCells' (pw_below_drewN HB m) hbg _ _
  have hb2 := below_sgrow ((w.drewN m).setCells g 0 (l'.flatMap encL)) 0 os
  have hs1 : B ≤ ((w.drewN m).setCells g 0 (l'.flatMap encL)).heap.size := by
   obtain ⟨_, hg2, _, _⟩ := holds_of_R hR
   omega
  exact ⟨Kd.R_below hR hb2, below_then hb1 hs1 hb2⟩
end Go.Proofs.YtfbockgjhbfidaaGreatDoor.Pr
end
