/- Texts of this session, cut down to what one claim needs and joined: StIns. -/
import Derived.Test.YtfbockgjhbfidaaGreatDoorQStIns0
import Derived.StillTailTactics
set_option linter.unusedVariables false
set_option linter.unusedSimpArgs false
namespace Go.Proofs.YtfbockgjhbfidaaGreatDoor.Pr
open Go.RowKit Go.Proofs.YtfbockgjhbfidaaGreatDoorW.PrintWords Go.Proofs.YtfbockgjhbfidaaGreatDoorW.PrintLast Go.Proofs.YtfbockgjhbfidaaGreatDoorW.PrintMore

theorem overlaps_not (w : World) (b g o la ca lb cb : Nat) (cs cur : Array Value) (hb : w.heap[b]? = some (.cells cs 47 (0, 0))) (hg : w.heap[g]? = some (.cells cur 47 (0, 0))) (hne : b ≠ g) (hc : cur.size ≠ 0) :
  (callFunc 44 #[.slice (some ⟨b, 0, none⟩) la ca, .slice (some ⟨g, o, none⟩) lb cb]).run Tryz.prog w = .ok (.value (.bool false)) w := by
 obtain ⟨i0, hi0, hz0, hz1, hz2⟩ := info_parts infoSer
 rw [run_callFunc_extern Tryz.func44 (by kernel_rfl) (by kernel_rfl) (by kernel_rfl) (e := Extern.SlicesOverlaps.overlaps #[22, 22] #[4]) (by kernel_rfl),
  Lib.run_overlaps_apart w 22 4 47 Tryz.underlying22 2 (fun w => by simp [sizeOf, typeInfo, hi0, hz1]) ⟨b, 0, none⟩ ⟨g, o, none⟩ la ca lb cb hne 47 47 cs.size cur.size (by simp [World.shape?, hb]) (by simp [World.shape?, hg]) hc (by simp [World.frozen?, hb]) (by simp [World.frozen?, hb])]
 rfl
theorem drew_set (g : Nat) : ∀ (zs : List Value) (o : Nat) (w : World), w.drew.setCells g o zs = (w.setCells g o zs).drew
 | [], _, _ => rfl
 | v :: r, o, w => by
  rw [World.setCells, World.setCells, ← drew_set g r]
  rfl
theorem grown_two (w1 : World) (g : Nat) (z1 z2 : List Value) (o1 o2 : Nat) (w : World) (h1 : w1.os = w.os) (h2 : w1.tape = w.tape) (h3 : w1.output = w.output) (h4 : w.heap.size ≤ w1.heap.size) (h5 : ∀ k, k < w.heap.size → w1.heap[k]? = w.heap[k]?) : w.grownBy ((w1.setCells g o1 z1).setCells g o2 z2) (some g) := by
 obtain ⟨a1, a2, a3, a4⟩ := setCells_same g z1 o1 w1
 obtain ⟨b1, b2, b3, b4⟩ := setCells_same g z2 o2 (w1.setCells g o1 z1)
 exact ⟨(b1.trans a1).trans h1, (b2.trans a2).trans h2, (b3.trans a3).trans h3, by omega, fun k hk hne => by rw [setCells_far _ _ _ (fun e => hne (by rw [e])), setCells_far _ _ _ (fun e => hne (by rw [e]))]; exact h5 k hk⟩
theorem row_cells {w : World} {g t : Nat} {cur : Array Value} (hh : w.heap[g]? = some (.cells cur t (0, 0))) (o : Nat) : w.cell? ⟨g, o, none⟩ = cur[o]? ∧ w.frozen? ⟨g, o, none⟩ = false := ⟨by simp [World.cell?, hh], by simp [World.frozen?, hh]⟩

set_option maxHeartbeats 4000000 in
set_option maxRecDepth 100000 in
theorem insert_end (W : Rel) (W0 w : World) (B : Nat) (HB : Below B W0 w) (hBw : B ≤ w.heap.size) (v : Value) (l : List S47) (HO : Kd.R (kS W) 47 w B (fun _ => True) v l) (x : S47) (cs : List Value) (hx : W.R x cs) (b : Nat) (hb : w.heap[b]? = some (.cells cs.toArray 47 (0, 0))) (hl : l.length ≤ 1000000) :
  Calls Tryz.prog 21 #[v, .int .i64 l.length, .slice (some ⟨b, 0, none⟩) 1 1] w fun e w' => ∃ v' : Value, e = .returned v' ∧ Kd.R (kS W) 47 w' B (fun _ => True) v' (l ++ [x]) ∧ Below B W0 w' ∧ w.grownBy w' v.ownBlock := by
 have hcl : cs.length = 2 := W.hl hx
 have HRX : ReadsRow W.R 2 w (some ⟨b, 0, none⟩) 1 [x] := ⟨rfl, by decide, fun _ => ⟨_, rfl, fun j p hj => by
  cases j with
  | zero =>
   obtain rfl : x = p := by simpa using hj
   refine ⟨cs, hcl, hx, fun i u hu => ?_⟩
   rw [Nat.zero_mul, Nat.zero_add, add_plain, (row_cells hb i).1, List.getElem?_toArray]
   exact hu
  | succ j => simp at hj⟩⟩
 obtain ⟨A, c, hv, hcap, hC⟩ := Kd.R_reads HO
 subst hv
 obtain ⟨i0, hi0, hz0, hz1, hz2⟩ := info_parts infoSer
 have hcut := cut_from (P := Tryz.prog) 22 47 .i64 Tryz.underlying22 hi0 2 hz1 A l.length c (l.length : Int) (by omega) (by omega)
 have HO0 := Aside0.mk HO
 have HX0 := Aside0.mk HRX
 have HB0 := Aside0.mk HB
 have HBW := Aside0.mk hBw
 clear HO HRX HB hBw hC hcap hi0 hz0 hz1 hz2 hx hb hcl
 obtain ⟨n, hn⟩ : ∃ n, n = l.length := ⟨_, rfl⟩
 have HN := Aside0.mk hn
 rw [← hn] at hcut hl ⊢
 clear hn
 generalize (if c = ((n : Int)).toNat then A else A.map (·.add (((n : Int)).toNat * 2))) = A' at hcut
 go_enter Tryz.func21, Tryz.ntmps21
 go_wp2_with (first
  | ((with_reducible refine gate_builtin (b := .append) (xs := #[.tmp 23, .tmp 24]) rfl ?_); at_builtin; refine Kd.R_append_rows (kS W) (w0 := W0) B rfl (.tmp 23) (.tmp 24) 22 47 _ 48 rfl Tryz.underlying22 infoSer rfl (Nat.succ_pos 1) (by omega) (.slice A n c) l [x] (some ⟨b, 0, none⟩) 1 1 (fun _ => True) (fun k => some k ≠ (Value.slice A n c).ownBlock) rfl rfl (by rw [HN.out]; exact HO0.out) HX0.out (fun x cs h => h) (fun k h => ⟨trivial, h⟩) (fun _ _ => trivial) HB0.out HBW.out (by rw [← HN.out]; omega) ?_; intro v6 w6 ho6 hb6 hg_ hnew_; clear hnew_; have HG6 := Aside0.mk hg_; clear hg_; have HO6 := Aside0.mk ho6; have HB6 := Aside0.mk hb6; clear ho6 hb6))
 go_ret
 exact ⟨v6, rfl, HO6.out, HB6.out, HG6.out⟩
set_option maxHeartbeats 8000000 in
set_option maxRecDepth 100000 in
theorem insert_room (W : Rel) (W0 w : World) (B : Nat) (HB : Below B W0 w) (g n cap : Nat) (l : List S47) (HO : Kd.R (kS W) 47 w B (fun _ => True) (.slice (some ⟨g, 0, none⟩) n cap) l) (hn : n = l.length) (x : S47) (cs : List Value) (hx : W.R x cs) (b : Nat) (hb : w.heap[b]? = some (.cells cs.toArray 47 (0, 0))) (hne : b ≠ g) (i : Nat) (hi : i < n) (hroom : n + 1 ≤ cap) (hl : n ≤ 1000000) :
  Calls Tryz.prog 21 #[.slice (some ⟨g, 0, none⟩) n cap, .int .i64 i, .slice (some ⟨b, 0, none⟩) 1 1] w fun e w' => ∃ v' : Value, e = .returned v' ∧ Kd.R (kS W) 47 w' B (fun _ => True) v' (l.take i ++ [x] ++ l.drop i) ∧ Below B W0 w' ∧ w.grownBy w' (some g) := by
 have hcl : cs.length = 2 := W.hl hx
 obtain ⟨cur, hh, hcs, hnc, hBg, hcm⟩ := row_block HO
 have hcs2 : cur.size = cap * 2 := hcs
 have hcm2 : cap ≤ 9223372036854775807 := hcm
 obtain ⟨inner, hin, hrep⟩ : ∃ inner, cur.toList.take (n * 2) = inner ∧ Reps W.R 2 l inner := by
  obtain ⟨_, inner, hown, hr⟩ := HO
  rcases hown.2 with ⟨hv, _⟩ | ⟨g', cap', cur', hv, _, hh', _, _, _, ht⟩
  ·cases hv
  ·injection hv with ha _ _
   injection ha with ha
   injection ha with hg'
   subst hg'
   rw [hh] at hh'
   injection hh' with hh'
   injection hh' with h1 _ _
   subst h1
   exact ⟨inner, by rw [hn]; exact ht, hr⟩
 have hil : inner.length = n * 2 := by rw [hrep.1, hn]
 obtain ⟨i0, hi0, hz0, hz1, hz2⟩ := info_parts infoSer
 have hsz : (Tryz.prog.info? 47).map (·.size) = some 2 := by rw [hi0]; simp [hz1]
 have hcutA := cut_from (P := Tryz.prog) 22 47 .i64 Tryz.underlying22 hi0 2 hz1 (some ⟨g, 0, none⟩) n cap (i : Int) (by omega) (by omega)
 rw [if_neg (by simp; omega)] at hcutA
 have hcutB := cut_over (P := Tryz.prog) 22 47 .i64 Tryz.underlying22 hi0 (some ⟨g, 0, none⟩) n cap ((n : Int) + 1) (by omega) (by omega)
 have hcutC := cut_from (P := Tryz.prog) 22 47 .i64 Tryz.underlying22 hi0 2 hz1 (some ⟨g, 0, none⟩) (n + 1) cap ((i : Int) + 1) (by omega) (by omega)
 rw [if_neg (by omega)] at hcutC
 have hcutD := cut_from (P := Tryz.prog) 22 47 .i64 Tryz.underlying22 hi0 2 hz1 (some ⟨g, 0, none⟩) (n + 1) cap (i : Int) (by omega) (by omega)
 rw [if_neg (by simp; omega)] at hcutD
 have e1 : ((n : Int) + 1).toNat = n + 1 := by omega
 have e2 : ((i : Int) + 1).toNat = i + 1 := by omega
 simp only [Int.toNat_natCast, Option.map_some, add_plain, e1, e2] at hcutA hcutB hcutC hcutD
 have hov := overlaps_not w b g ((i + 1) * 2) 1 1 (n - i) (cap - (i + 1)) cs.toArray cur hb hh hne (by omega)
 have wn : IntKind.i64.wrap ((n : Int) + 1) = (n : Int) + 1 := IntWalk.i64_in _ (by omega)
 have wi : IntKind.i64.wrap ((i : Int) + 1) = (i : Int) + 1 := IntWalk.i64_in _ (by omega)
 -- what is moved up
 have hz : (inner.drop (i * 2)).length = (n - i) * 2 := by rw [List.length_drop, hil, ← Nat.sub_mul]
 have hcell : ∀ j v, inner[j]? = some v → cur[j]? = some v := fun j v h => by
  have hj : j < n * 2 := by
   rcases Nat.lt_or_ge j (n * 2) with h' | h'
   ·exact h'
   ·rw [List.getElem?_eq_none (by omega)] at h; cases h
  rw [← hin, List.getElem?_take, if_pos hj, Array.getElem?_toList] at h
  exact h
 have h1c : ∀ v ∈ inner, v.oneCell' = true := fun v hv => by
  obtain ⟨j, hj, rfl⟩ := List.getElem_of_mem hv
  have hjl : j / 2 < l.length := by omega
  have hk := hrep.2 (j / 2) l[j / 2] (by simp [hjl])
  refine W.h1 hk _ ?_
  have : (((inner.drop (j / 2 * 2)).take 2))[j % 2]? = some inner[j] := by
   rw [List.getElem?_take, if_pos (by omega), List.getElem?_drop, show j / 2 * 2 + j % 2 = j from by omega, List.getElem?_eq_getElem hj]
  exact List.mem_of_getElem? this
 have hcp1 : ∀ (w1 : World), w1.heap[g]? = w.heap[g]? → (Builtin.copy_ #[22, 22] 3 #[.slice (some ⟨g, (i + 1) * 2, none⟩) (n - i) (cap - (i + 1)), .slice (some ⟨g, i * 2, none⟩) (n + 1 - i) (cap - i)]).run Tryz.prog w1 = .ok (goInt (n - i : Nat)) (w1.setCells g ((i + 1) * 2) (inner.drop (i * 2))) := fun w1 hw1 => by
  have hh1 : w1.heap[g]? = some (.cells cur 47 (0, 0)) := hw1.trans hh
  refine run_copy_sz w1 _ _ _ 47 g ((i + 1) * 2) _ _ ⟨g, i * 2, none⟩ _ _ (inner.drop (i * 2)) 2 (n - i) Tryz.underlying22 hsz (by show min _ _ = _; omega) hz (fun j v hj => ?_) (fun j hj => ?_) (fun j hj => (row_cells hh1 _).2) (fun v hv => h1c v (List.mem_of_mem_drop hv))
  ·rw [List.getElem?_drop] at hj
   have : (⟨g, i * 2, none⟩ : Addr).add j = ⟨g, i * 2 + j, none⟩ := by unfold Addr.add; split <;> simp_all
   rw [this, (row_cells hh1 _).1]
   exact hcell _ _ hj
  ·rw [(row_cells hh1 _).1, Array.getElem?_eq_getElem (by rw [hz] at hj; omega)]
   rfl
 obtain ⟨cur1, hh1, hs1, ht1⟩ := setCells_row (inner.drop (i * 2)) ((i + 1) * 2) w cur hh (by omega)
 have hb1 : (w.setCells g ((i + 1) * 2) (inner.drop (i * 2))).heap[b]? = some (.cells cs.toArray 47 (0, 0)) := by rw [setCells_far _ _ _ hne]; exact hb
 have h1x : ∀ v ∈ cs, v.oneCell' = true := W.h1 hx
 have hcp2 : ∀ (w1 : World), w1.heap[g]? = (w.setCells g ((i + 1) * 2) (inner.drop (i * 2))).heap[g]? → w1.heap[b]? = (w.setCells g ((i + 1) * 2) (inner.drop (i * 2))).heap[b]? → (Builtin.copy_ #[22, 22] 3 #[.slice (some ⟨g, i * 2, none⟩) (n + 1 - i) (cap - i), .slice (some ⟨b, 0, none⟩) 1 1]).run Tryz.prog w1 = .ok (goInt (1 : Nat)) (w1.setCells g (i * 2) cs) := fun w1 hg1 hbb => by
  have hhg := hg1.trans hh1
  have hhb := hbb.trans hb1
  refine run_copy_sz w1 _ _ _ 47 g (i * 2) _ _ ⟨b, 0, none⟩ _ _ cs 2 1 Tryz.underlying22 hsz (by show min _ _ = _; omega) (by omega) (fun j v hj => ?_) (fun j hj => ?_) (fun j hj => (row_cells hhg _).2) h1x
  ·rw [add_plain, (row_cells hhb _).1, List.getElem?_toArray]
   exact hj
  ·rw [(row_cells hhg _).1, Array.getElem?_eq_getElem (by omega)]
   rfl
 have HCP1 := Aside0.mk hcp1
 have HCP2 := Aside0.mk hcp2
 -- the end
 have HEND : Aside0 (∀ w1 : World, w1.heap[g]? = ((w.setCells g ((i + 1) * 2) (inner.drop (i * 2))).setCells g (i * 2) cs).heap[g]? → Kd.R (kS W) 47 w1 B (fun _ => True) (.slice (some ⟨g, 0, none⟩) (n + 1) cap) (l.take i ++ [x] ++ l.drop i)) := ⟨fun w1 hg1 => by
  obtain ⟨cur2, hh2, hs2, ht2⟩ := setCells_row cs (i * 2) _ cur1 hh1 (by omega)
  refine R_of_cells (inner := inner.take (i * 2) ++ cs ++ inner.drop (i * 2)) (hg1.trans hh2) hBg (by simp; omega) hroom hcm (by rw [hs2, hs1, hcs2]) (Reps_app (Reps_app (Reps_tk hrep i (by omega)) (Reps_one hx hcl)) (Reps_dp hrep i)) ?_
  have hc1 : cur.toList.take (i * 2) = inner.take (i * 2) := by rw [← hin, List.take_take, Nat.min_eq_left (by omega)]
  have t1 : cur1.toList.take (i * 2) = inner.take (i * 2) := by
   rw [ht1, List.append_assoc, List.take_append_of_le_length (by rw [List.length_take, Array.length_toList]; omega), List.take_take, Nat.min_eq_left (by omega), hc1]
  have t2 : (cur1.toList.drop (i * 2 + cs.length)).take ((n - i) * 2) = inner.drop (i * 2) := by
   rw [ht1, hcl, show i * 2 + 2 = (i + 1) * 2 from by omega, List.append_assoc, List.drop_append, List.drop_eq_nil_of_le (by rw [List.length_take, Array.length_toList]; omega), List.nil_append, List.length_take, Array.length_toList, Nat.min_eq_left (by omega), Nat.sub_self, List.drop_zero, List.take_append_of_le_length (by omega), List.take_of_length_le (by omega)]
  rw [ht2, t1, show (n + 1) * 2 = (inner.take (i * 2) ++ cs).length + (n - i) * 2 from by rw [List.length_append, List.length_take, hil, hcl]; omega, List.take_length_add_append, t2]⟩
 have HBEL : Aside0 (∀ w1 : World, Below B ((w.setCells g ((i + 1) * 2) (inner.drop (i * 2))).setCells g (i * 2) cs) w1 → Below B W0 w1) := ⟨fun w1 h => ((below_setCells' (below_setCells' HB hBg _ _) hBg _ _)).trans h⟩
 clear HO hx hcl hh hcs hnc hcm hrep hil hi0 hz0 hz1 hz2 hsz hz hcell h1c hcp1 hh1 hs1 ht1 hb1 h1x hcp2 hin hb HB hn hBg e1 e2
 have hz1' : ¬ ((i : Int) = (n : Int)) := by omega
 have hz2' : ((i : Int) == (n : Int)) = false := by simpa using hz1'
 have hroomI : (n : Int) + 1 ≤ (cap : Int) := by omega
 generalize hZ : inner.drop (i * 2) = Z at *
 go_enter Tryz.func21, Tryz.ntmps21
 go_wp2
 go_still_tail 8, (by kernel_rfl)
 change wpList _ _ _ _ _ w.drew
 refine wpList_copy_run _ rfl (.tmp 73) (.tmp 76) 22 22 rfl _ _ rfl rfl (HCP1.out w.drew rfl) ?_
 have HCP3 := Aside0.mk (HCP2.out (w.drew.setCells g ((i + 1) * 2) Z) (by rw [drew_set]; rfl) (by rw [drew_set]; rfl))
 go_wp2_with ((with_reducible refine gate_builtin (b := .copy) (xs := #[.tmp 80, .tmp 81]) rfl ?_); refine wpList_copy_run _ rfl (.tmp 80) (.tmp 81) 22 22 rfl _ _ rfl rfl HCP3.out ?_)
 go_ret
 refine ⟨_, rfl, HEND.out _ ?_, HBEL.out _ ?_, ?_⟩
 ·rw [drew_set, drew_set]; rfl
 ·rw [drew_set, drew_set]; exact ⟨rfl, rfl, rfl, Nat.le_refl _, fun _ _ => rfl⟩
 ·exact grown_two w.drew g _ _ _ _ w rfl rfl rfl (Nat.le_refl _) (fun _ _ => rfl)
theorem inner_of {W : Rel} {w : World} {B g n cap : Nat} {l : List S47} (HO : Kd.R (kS W) 47 w B (fun _ => True) (.slice (some ⟨g, 0, none⟩) n cap) l) (hn : n = l.length) {cur : Array Value} (hh : w.heap[g]? = some (.cells cur 47 (0, 0))) : ∃ inner, cur.toList.take (n * 2) = inner ∧ Reps W.R 2 l inner := by
 obtain ⟨_, inner, hown, hr⟩ := HO
 rcases hown.2 with ⟨hv, _⟩ | ⟨g', cap', cur', hv, _, hh', _, _, _, ht⟩
 ·cases hv
 ·injection hv with ha _ _
  injection ha with ha
  injection ha with hg'
  subst hg'
  rw [hh] at hh'
  injection hh' with hh'
  injection hh' with h1 _ _
  subst h1
  exact ⟨inner, by rw [hn]; exact ht, hr⟩
theorem inner_one {W : Rel} {l : List S47} {inner : List Value} (hrep : Reps W.R 2 l inner) : ∀ v ∈ inner, v.oneCell' = true := fun v hv => by
 have hil := hrep.1
 obtain ⟨j, hj, rfl⟩ := List.getElem_of_mem hv
 have hjl : j / 2 < l.length := by omega
 have hk := hrep.2 (j / 2) l[j / 2] (by simp [hjl])
 refine W.h1 hk _ ?_
 have : (((inner.drop (j / 2 * 2)).take 2))[j % 2]? = some inner[j] := by
  rw [List.getElem?_take, if_pos (by omega), List.getElem?_drop, show j / 2 * 2 + j % 2 = j from by omega, List.getElem?_eq_getElem hj]
 exact List.mem_of_getElem? this

set_option maxHeartbeats 8000000 in
set_option maxRecDepth 100000 in
theorem insert_grow (W : Rel) (W0 w : World) (B : Nat) (HB : Below B W0 w) (hBw : B ≤ w.heap.size) (g n : Nat) (l : List S47) (HO : Kd.R (kS W) 47 w B (fun _ => True) (.slice (some ⟨g, 0, none⟩) n n) l) (hn : n = l.length) (x : S47) (cs : List Value) (hx : W.R x cs) (b : Nat) (hb : w.heap[b]? = some (.cells cs.toArray 47 (0, 0))) (i : Nat) (hi : i < n) (hl : n ≤ 1000000) :
  Calls Tryz.prog 21 #[.slice (some ⟨g, 0, none⟩) n n, .int .i64 i, .slice (some ⟨b, 0, none⟩) 1 1] w fun e w' => ∃ v' : Value, e = .returned v' ∧ Kd.R (kS W) 47 w' B (fun _ => True) v' (l.take i ++ [x] ++ l.drop i) ∧ Below B W0 w' ∧ w.grownBy w' (some g) := by
 have hcl : cs.length = 2 := W.hl hx
 obtain ⟨cur, hh, hcs, hnc, hBg, hcm⟩ := row_block HO
 have hcs2 : cur.size = n * 2 := hcs
 obtain ⟨inner, hin, hrep⟩ := inner_of HO hn hh
 have hil : inner.length = n * 2 := by rw [hrep.1, hn]
 have hcur : cur.toList = inner := by rw [← hin, List.take_of_length_le (by rw [Array.length_toList]; omega)]
 have h1c := inner_one hrep
 have h1x : ∀ v ∈ cs, v.oneCell' = true := W.h1 hx
 obtain ⟨i0, hi0, hz0, hz1, hz2⟩ := info_parts infoSer
 have hsz : (Tryz.prog.info? 47).map (·.size) = some 2 := by rw [hi0]; simp [hz1]
 obtain ⟨gc, hgc⟩ : ∃ gc, gc = grownCap w (n + 1) n 47 := ⟨_, rfl⟩
 have hgc1 : n + 1 ≤ gc := by rw [hgc]; exact grownCap_ge ..
 have hgc2 : gc ≤ 9223372036854775807 := by rw [hgc]; exact grownCap_le_maxLen _ _ _ _ (by show n + 1 ≤ 9223372036854775807; omega)
 have hblt : b < w.heap.size := (Array.getElem?_eq_some_iff.1 hb).1
 have hglt : g < w.heap.size := (Array.getElem?_eq_some_iff.1 hh).1
 -- the made row
 obtain ⟨C, hC⟩ : ∃ C, C = (inner.take (i * 2)).toArray ++ Builtin.zeroCells (Value.agg #[.slice none 0 0, .slice none 0 0]).cells (n + 1 - i) ++ Builtin.zeroCells (Value.agg #[.slice none 0 0, .slice none 0 0]).cells (gc - (n + 1)) := ⟨_, rfl⟩
 have hCs : C.size = gc * 2 := by
  rw [hC]
  simp [Builtin.zeroCells, hil, Value.cells]
  omega
 have hCt : C.toList.take (i * 2) = inner.take (i * 2) := by
  rw [hC]
  simp only [Array.toList_append, List.append_assoc]
  rw [List.take_append_of_le_length (by simp; omega), List.take_of_length_le (by simp; omega)]
 have ho2 : (inner.take (i * 2)).length = i * i0.size := by rw [List.length_take, hz1]; omega
 have happ : (Builtin.append_ #[22, 3] 22 #[.slice (some ⟨g, 0, none⟩) i n, .int .i64 ((n : Int) + 1 - (i : Int))]).run Tryz.prog w = .ok (.slice (some ⟨w.heap.size, 0, none⟩) (n + 1) gc) (w.drew.alloc (.cells C 47)) := by
  have e : ((n : Int) + 1 - (i : Int)) = ((n + 1 - i : Nat) : Int) := by omega
  have e2 : i + (n + 1 - i) = n + 1 := by omega
  rw [e, run_append_made w 22 3 _ 47 i0 _ .i64 Tryz.underlying22 Tryz.underlying3 hi0 hz0 g i n (n + 1 - i) (inner.take (i * 2)) ho2 (fun j u hu => by
   rw [add_plain, (row_cells hh j).1, ← Array.getElem?_toList, hcur]
   rw [List.getElem?_take] at hu
   split at hu
   ·exact hu
   ·cases hu) (by omega) (by omega) (by omega) (by omega) (by rw [hz2]; omega), e2, ← hgc, hC]
 obtain ⟨g2, hg2⟩ : ∃ g2, g2 = w.heap.size := ⟨_, rfl⟩
 rw [← hg2] at happ hblt hglt
 obtain ⟨w1, hw1⟩ : ∃ w1, w1 = w.drew.alloc (.cells C 47) := ⟨_, rfl⟩
 rw [← hw1] at happ
 have hC1 : w1.heap[g2]? = some (.cells C 47 (0, 0)) := by rw [hw1, hg2]; exact heap_alloc_new w.drew _
 have hbw1 : Below w.heap.size w w1 := by rw [hw1]; exact below_alloc (below_drew (Below.refl _ _)) _
 have hb1 : w1.heap[b]? = some (.cells cs.toArray 47 (0, 0)) := (hbw1.block b (by omega)).trans hb
 have hh1 : w1.heap[g]? = some (.cells cur 47 (0, 0)) := (hbw1.block g (by omega)).trans hh
 have hcutA := cut_from (P := Tryz.prog) 22 47 .i64 Tryz.underlying22 hi0 2 hz1 (some ⟨g, 0, none⟩) n n (i : Int) (by omega) (by omega)
 rw [if_neg (by simp; omega)] at hcutA
 have hcutB := cut_to (P := Tryz.prog) 22 47 .i64 Tryz.underlying22 hi0 (some ⟨g, 0, none⟩) n n (i : Int) (by omega) (by omega) (Nat.le_refl _)
 have hcutC := cut_from (P := Tryz.prog) 22 47 .i64 Tryz.underlying22 hi0 2 hz1 (some ⟨g2, 0, none⟩) (n + 1) gc ((i : Int) + 1) (by omega) (by omega)
 rw [if_neg (by omega)] at hcutC
 have hcutD := cut_from (P := Tryz.prog) 22 47 .i64 Tryz.underlying22 hi0 2 hz1 (some ⟨g2, 0, none⟩) (n + 1) gc (i : Int) (by omega) (by omega)
 rw [if_neg (by simp; omega)] at hcutD
 have e2 : ((i : Int) + 1).toNat = i + 1 := by omega
 simp only [Int.toNat_natCast, Option.map_some, add_plain, e2] at hcutA hcutB hcutC hcutD
 have wn : IntKind.i64.wrap ((n : Int) + 1) = (n : Int) + 1 := IntWalk.i64_in _ (by omega)
 have wi : IntKind.i64.wrap ((i : Int) + 1) = (i : Int) + 1 := IntWalk.i64_in _ (by omega)
 have wm : IntKind.i64.wrap ((n : Int) + 1 - (i : Int)) = (n : Int) + 1 - (i : Int) := IntWalk.i64_in _ (by omega)
 have hz : (inner.drop (i * 2)).length = (n - i) * 2 := by rw [List.length_drop, hil, ← Nat.sub_mul]
 -- the first copy
 have hcp1 : (Builtin.copy_ #[22, 22] 3 #[.slice (some ⟨g2, i * 2, none⟩) (n + 1 - i) (gc - i), .slice (some ⟨b, 0, none⟩) 1 1]).run Tryz.prog w1 = .ok (goInt (1 : Nat)) (w1.setCells g2 (i * 2) cs) :=
  run_copy_sz w1 _ _ _ 47 g2 (i * 2) _ _ ⟨b, 0, none⟩ _ _ cs 2 1 Tryz.underlying22 hsz (by show min _ _ = _; omega) (by omega) (fun j v hj => by rw [add_plain, (row_cells hb1 _).1, List.getElem?_toArray]; exact hj)
   (fun j hj => by rw [(row_cells hC1 _).1, Array.getElem?_eq_getElem (by omega)]; rfl) (fun j hj => (row_cells hC1 _).2) h1x
 obtain ⟨w2, hw2⟩ : ∃ w2, w2 = w1.setCells g2 (i * 2) cs := ⟨_, rfl⟩
 rw [← hw2] at hcp1
 obtain ⟨cur2, hC2, hs2, ht2⟩ := setCells_row cs (i * 2) w1 C hC1 (by omega)
 rw [← hw2] at hC2
 have hh2 : w2.heap[g]? = some (.cells cur 47 (0, 0)) := by rw [hw2, setCells_far _ _ _ (by omega)]; exact hh1
 have hcp2 : (Builtin.copy_ #[22, 22] 3 #[.slice (some ⟨g2, (i + 1) * 2, none⟩) (n - i) (gc - (i + 1)), .slice (some ⟨g, i * 2, none⟩) (n - i) (n - i)]).run Tryz.prog w2.drew = .ok (goInt (n - i : Nat)) (w2.drew.setCells g2 ((i + 1) * 2) (inner.drop (i * 2))) :=
  run_copy_sz w2.drew _ _ _ 47 g2 ((i + 1) * 2) _ _ ⟨g, i * 2, none⟩ _ _ (inner.drop (i * 2)) 2 (n - i) Tryz.underlying22 hsz (by show min _ _ = _; omega) hz
   (fun j v hj => by
    rw [List.getElem?_drop] at hj
    have e : (⟨g, i * 2, none⟩ : Addr).add j = ⟨g, i * 2 + j, none⟩ := by unfold Addr.add; split <;> simp_all
    have h2 := (row_cells (w := w2.drew) hh2 (i * 2 + j)).1
    rw [e, h2, ← Array.getElem?_toList, hcur]
    exact hj)
   (fun j hj => by rw [(row_cells (w := w2.drew) hC2 _).1, Array.getElem?_eq_getElem (by omega)]; rfl) (fun j hj => (row_cells (w := w2.drew) hC2 _).2) (fun v hv => h1c v (List.mem_of_mem_drop hv))
 have HAPP := Aside0.mk happ
 have HCP1 := Aside0.mk hcp1
 have HCP2 := Aside0.mk hcp2
 have HEND : Aside0 (Kd.R (kS W) 47 (w2.drew.setCells g2 ((i + 1) * 2) (inner.drop (i * 2))) B (fun _ => True) (.slice (some ⟨g2, 0, none⟩) (n + 1) gc) (l.take i ++ [x] ++ l.drop i)) := ⟨by
  obtain ⟨cur3, hh3, hs3, ht3⟩ := setCells_row (inner.drop (i * 2)) ((i + 1) * 2) w2.drew cur2 hC2 (by omega)
  refine R_of_cells (inner := inner.take (i * 2) ++ cs ++ inner.drop (i * 2)) hh3 (by omega) (by simp; omega) hgc1 hgc2 (by rw [hs3, hs2, hCs]) (Reps_app (Reps_app (Reps_tk hrep i (by omega)) (Reps_one hx hcl)) (Reps_dp hrep i)) ?_
  have t1 : cur2.toList.take ((i + 1) * 2) = inner.take (i * 2) ++ cs := by
   rw [ht2, hCt, show (i + 1) * 2 = (inner.take (i * 2) ++ cs).length + 0 from by rw [List.length_append, List.length_take, hil, hcl]; omega, List.take_length_add_append, List.take_zero, List.append_nil]
  rw [ht3, t1, show (n + 1) * 2 = (inner.take (i * 2) ++ cs ++ inner.drop (i * 2)).length + 0 from by rw [List.length_append, List.length_append, List.length_take, hil, hcl, hz]; omega, List.take_length_add_append, List.take_zero, List.append_nil]⟩
 have HBEL : Aside0 (Below B W0 (w2.drew.setCells g2 ((i + 1) * 2) (inner.drop (i * 2)))) := ⟨by
  rw [drew_set, hw2]
  exact below_drew (below_setCells' (below_setCells' (below_then HB hBw hbw1) (by omega) _ _) (by omega) _ _)⟩
 have HGR : Aside0 (w.grownBy (w2.drew.setCells g2 ((i + 1) * 2) (inner.drop (i * 2))) (some g)) := ⟨by
  have hbb : Below w.heap.size w (w2.drew.setCells g2 ((i + 1) * 2) (inner.drop (i * 2))) := by
   rw [drew_set, hw2]
   exact below_drew (below_setCells' (below_setCells' hbw1 (by omega) _ _) (by omega) _ _)
  exact grown_of_below hbb (some g)⟩
 clear HO hx hcl hh hcs hnc hcm hrep hil hi0 hz0 hz1 hz2 hsz hz h1c h1x hcp1 hcp2 hC1 hC2 hh1 hh2 hs2 ht2 hb1 hin hb HB hn hBg e2 happ hcur hC hCs hCt ho2 hw1 hw2 hbw1 hgc hg2 hblt hglt hBw hcs2
 have hz1' : ¬ ((i : Int) = (n : Int)) := by omega
 have hz2' : ((i : Int) == (n : Int)) = false := by simpa using hz1'
 generalize hZ : inner.drop (i * 2) = Z at *
 go_enter Tryz.func21, Tryz.ntmps21
 go_wp2_with (first
  | ((with_reducible refine gate_builtin (b := .append) (xs := #[.tmp 34, .tmp 39]) rfl ?_); refine Lib.wpList_append_run _ rfl (.tmp 34) (.tmp 39) 22 3 rfl _ _ rfl rfl _ _ HAPP.out ?_)
  | ((with_reducible refine gate_builtin (b := .copy) (xs := #[.tmp 43, .tmp 44]) rfl ?_); refine wpList_copy_run _ rfl (.tmp 43) (.tmp 44) 22 22 rfl _ _ rfl rfl HCP1.out ?_))
 go_still_tail 8, (by kernel_rfl)
 change wpList _ _ _ _ _ w2.drew
 refine wpList_copy_run _ rfl (.tmp 50) (.tmp 53) 22 22 rfl _ _ rfl rfl HCP2.out ?_
 go_wp2
 go_ret
 exact ⟨_, rfl, HEND.out, HBEL.out, HGR.out⟩
/-- All three roads. -/
theorem insert_St (W : Rel) (W0 w : World) (B : Nat) (HB : Below B W0 w) (hBw : B ≤ w.heap.size) (v : Value) (l : List S47) (HO : Kd.R (kS W) 47 w B (fun _ => True) v l) (x : S47) (cs : List Value) (hx : W.R x cs) (b : Nat) (hb : w.heap[b]? = some (.cells cs.toArray 47 (0, 0))) (hne : v.ownBlock ≠ some b) (i : Nat) (hi : i ≤ l.length) (hl : l.length ≤ 1000000) :
  Calls Tryz.prog 21 #[v, .int .i64 i, .slice (some ⟨b, 0, none⟩) 1 1] w fun e w' => ∃ v' : Value, e = .returned v' ∧ Kd.R (kS W) 47 w' B (fun _ => True) v' (l.take i ++ [x] ++ l.drop i) ∧ Below B W0 w' ∧ w.grownBy w' v.ownBlock := by
 by_cases he : i = l.length
 ·subst he
  rw [List.take_length, List.drop_length, List.append_nil]
  exact insert_end W W0 w B HB hBw v l HO x cs hx b hb hl
 ·obtain ⟨g, cap, rfl⟩ := row_form HO (by omega)
  have hbg : b ≠ g := fun e => hne (by rw [e]; rfl)
  obtain ⟨_, _, _, hnc, _, _⟩ := row_block HO
  by_cases hr : l.length + 1 ≤ cap
  ·exact insert_room W W0 w B HB g l.length cap l HO rfl x cs hx b hb hbg i (by omega) hr hl
  ·obtain rfl : cap = l.length := by omega
   exact insert_grow W W0 w B HB hBw g l.length l HO rfl x cs hx b hb i (by omega) hl
end Go.Proofs.YtfbockgjhbfidaaGreatDoor.Pr
