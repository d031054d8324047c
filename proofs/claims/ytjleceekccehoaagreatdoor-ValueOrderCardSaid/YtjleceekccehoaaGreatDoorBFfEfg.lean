/- Texts of this session, cut down to what one claim needs and joined: FfEfg. -/
import Derived.Test.YtjleceekccehoaaGreatDoorBFfSt
import Derived.Deep.LoopGhost
set_option linter.unusedVariables false
set_option linter.unusedSimpArgs false
namespace Go.Proofs.YtjleceekccehoaaGreatDoor.Pr
open Go.RowKit Go.Proofs.YtjleceekccehoaaGreatDoorW.PrintWords Go.Proofs.YtjleceekccehoaaGreatDoorW.PrintLast Go.Proofs.YtjleceekccehoaaGreatDoorW.PrintMore
attribute [local go_sem] max2_int min2_int max_two min_two max_three min_three

def sgn (neg : Bool) : List Int := if neg = true then [45] else []
def dig2 (a : Int) : List Int := if a < 10 then [48, a + 48] else if a < 100 then [a / 10 + 48, a % 10 + 48] else [a / 100 + 48, a / 10 % 10 + 48, a % 10 + 48]
def expV (x : Int) : List Int := if x < 0 then 45 :: dig2 (-x) else 43 :: dig2 x
def eV (neg : Bool) (ds : List Int) (dp : Int) (nd : Nat) : List Int :=
  sgn neg ++ [if nd = 0 then 48 else ds.headD 0] ++ (if 2 ≤ nd then 46 :: (ds.drop 1).take (nd - 1) else []) ++ [101] ++ expV (if nd = 0 then 0 else dp - 1)

-- WALKS
set_option maxHeartbeats 4000000 in
set_option maxRecDepth 100000 in
theorem efg_0 (neg : Bool) (gs : Nat) (ds : List Int) (dp : Int) (nd : Nat) (hd : ds.length = 32) (hnd : nd ≤ 20) (hdp : -400 ≤ dp) (hdp2 : dp ≤ 400) (w0 w : World) (v : Value) (h : St w0 (some gs) ds w v [])
    (hneg : neg = true) (hn : nd = 0) (hx : dp - 1 < -4) :
    Calls Tryz.prog 99 #[v, .bool neg, .slice (some ⟨gs, 0, none⟩) 32 32, .int .i64 dp, .int .i64 nd, .int .i64 nd, .int .u8 103, .bool true] w fun e w' => ∃ v', e = .returned v' ∧ St w0 (some gs) ds w' v' (eV neg ds dp nd) := by
  subst hneg
  obtain ⟨d0, hd0⟩ : ∃ d0, ds[0]? = some d0 := ⟨ds[0]'(by omega), List.getElem?_eq_getElem (by omega)⟩
  have HD := Aside0.mk hd0
  have HV : Aside0 (eV true ds dp nd = [45] ++ [48] ++ [] ++ [101] ++ (43 :: dig2 0)) := by
    refine ⟨?_⟩
    have hh : ds.headD 0 = d0 := by cases ds <;> simp_all
    unfold eV sgn
    subst hn
    simp [expV, dig2]
  rw [HV.out]
  have HS := Aside0.mk h
  clear h hd0 HV
  obtain rfl : nd = 0 := hn
  go_enter Tryz.func99, Tryz.ntmps99
  go_wp2_with (first | ((with_reducible refine gate_builtin (b := .append) (xs := #[.tmp 79, .tmp 80]) rfl ?_); at_builtin; refine app1 rfl (.tmp 79) (.tmp 80) rfl Tryz.underlying97 info5 _ HS.out rfl rfl (by (try simp only [List.length_append, List.length_cons, List.length_nil, List.length_take, List.length_drop]); omega) ?_; intro v_ w_ hs_; have n0_ := Aside0.mk hs_; clear HS hs_; have HS := n0_; clear n0_) | ((with_reducible refine gate_builtin (b := .append) (xs := #[.tmp 87, .tmp 89]) rfl ?_); at_builtin; refine app1 rfl (.tmp 87) (.tmp 89) rfl Tryz.underlying97 info5 _ HS.out rfl rfl (by (try simp only [List.length_append, List.length_cons, List.length_nil, List.length_take, List.length_drop]); omega) ?_; intro v_ w_ hs_; have n0_ := Aside0.mk hs_; clear HS hs_; have HS := n0_; clear n0_) | ((with_reducible refine gate_builtin (b := .append) (xs := #[.tmp 120, .tmp 122]) rfl ?_); at_builtin; refine app1 rfl (.tmp 120) (.tmp 122) rfl Tryz.underlying97 info5 _ HS.out rfl rfl (by (try simp only [List.length_append, List.length_cons, List.length_nil, List.length_take, List.length_drop]); omega) ?_; intro v_ w_ hs_; have n0_ := Aside0.mk hs_; clear HS hs_; have HS := n0_; clear n0_) | ((with_reducible refine gate_builtin (b := .append) (xs := #[.tmp 132, .tmp 134]) rfl ?_); at_builtin; refine app1 rfl (.tmp 132) (.tmp 134) rfl Tryz.underlying97 info5 _ HS.out rfl rfl (by (try simp only [List.length_append, List.length_cons, List.length_nil, List.length_take, List.length_drop]); omega) ?_; intro v_ w_ hs_; have n0_ := Aside0.mk hs_; clear HS hs_; have HS := n0_; clear n0_) | ((with_reducible refine gate_builtin (b := .append) (xs := #[.tmp 155, .tmp 159]) rfl ?_); at_builtin; refine appN rfl (.tmp 155) (.tmp 159) rfl Tryz.underlying97 info5 _ _ _ _ (HS.out.alloc _) (C_new2 _ _ _) rfl rfl (by (try simp only [List.length_append, List.length_cons, List.length_nil, List.length_take, List.length_drop]); omega) (by omega) ?_; intro v_ w_ hs_; have n0_ := Aside0.mk hs_; clear HS hs_; have HS := n0_; clear n0_))
  go_ret
  refine ⟨_, rfl, ?_⟩
  have hs := HS.out
  first | exact hs | (simp only [List.nil_append, List.append_assoc, List.cons_append, List.append_nil] at hs ⊢; exact hs) | (simp at hs ⊢; exact hs)
set_option maxHeartbeats 4000000 in
set_option maxRecDepth 100000 in
theorem efg_1 (neg : Bool) (gs : Nat) (ds : List Int) (dp : Int) (nd : Nat) (hd : ds.length = 32) (hnd : nd ≤ 20) (hdp : -400 ≤ dp) (hdp2 : dp ≤ 400) (w0 w : World) (v : Value) (h : St w0 (some gs) ds w v [])
    (hneg : neg = true) (hn : nd = 0) (hx : 6 ≤ dp - 1) :
    Calls Tryz.prog 99 #[v, .bool neg, .slice (some ⟨gs, 0, none⟩) 32 32, .int .i64 dp, .int .i64 nd, .int .i64 nd, .int .u8 103, .bool true] w fun e w' => ∃ v', e = .returned v' ∧ St w0 (some gs) ds w' v' (eV neg ds dp nd) := by
  subst hneg
  obtain ⟨d0, hd0⟩ : ∃ d0, ds[0]? = some d0 := ⟨ds[0]'(by omega), List.getElem?_eq_getElem (by omega)⟩
  have HD := Aside0.mk hd0
  have HV : Aside0 (eV true ds dp nd = [45] ++ [48] ++ [] ++ [101] ++ (43 :: dig2 0)) := by
    refine ⟨?_⟩
    have hh : ds.headD 0 = d0 := by cases ds <;> simp_all
    unfold eV sgn
    subst hn
    simp [expV, dig2]
  rw [HV.out]
  have HS := Aside0.mk h
  clear h hd0 HV
  obtain rfl : nd = 0 := hn
  go_enter Tryz.func99, Tryz.ntmps99
  go_wp2_with (first | ((with_reducible refine gate_builtin (b := .append) (xs := #[.tmp 79, .tmp 80]) rfl ?_); at_builtin; refine app1 rfl (.tmp 79) (.tmp 80) rfl Tryz.underlying97 info5 _ HS.out rfl rfl (by (try simp only [List.length_append, List.length_cons, List.length_nil, List.length_take, List.length_drop]); omega) ?_; intro v_ w_ hs_; have n0_ := Aside0.mk hs_; clear HS hs_; have HS := n0_; clear n0_) | ((with_reducible refine gate_builtin (b := .append) (xs := #[.tmp 87, .tmp 89]) rfl ?_); at_builtin; refine app1 rfl (.tmp 87) (.tmp 89) rfl Tryz.underlying97 info5 _ HS.out rfl rfl (by (try simp only [List.length_append, List.length_cons, List.length_nil, List.length_take, List.length_drop]); omega) ?_; intro v_ w_ hs_; have n0_ := Aside0.mk hs_; clear HS hs_; have HS := n0_; clear n0_) | ((with_reducible refine gate_builtin (b := .append) (xs := #[.tmp 120, .tmp 122]) rfl ?_); at_builtin; refine app1 rfl (.tmp 120) (.tmp 122) rfl Tryz.underlying97 info5 _ HS.out rfl rfl (by (try simp only [List.length_append, List.length_cons, List.length_nil, List.length_take, List.length_drop]); omega) ?_; intro v_ w_ hs_; have n0_ := Aside0.mk hs_; clear HS hs_; have HS := n0_; clear n0_) | ((with_reducible refine gate_builtin (b := .append) (xs := #[.tmp 132, .tmp 134]) rfl ?_); at_builtin; refine app1 rfl (.tmp 132) (.tmp 134) rfl Tryz.underlying97 info5 _ HS.out rfl rfl (by (try simp only [List.length_append, List.length_cons, List.length_nil, List.length_take, List.length_drop]); omega) ?_; intro v_ w_ hs_; have n0_ := Aside0.mk hs_; clear HS hs_; have HS := n0_; clear n0_) | ((with_reducible refine gate_builtin (b := .append) (xs := #[.tmp 155, .tmp 159]) rfl ?_); at_builtin; refine appN rfl (.tmp 155) (.tmp 159) rfl Tryz.underlying97 info5 _ _ _ _ (HS.out.alloc _) (C_new2 _ _ _) rfl rfl (by (try simp only [List.length_append, List.length_cons, List.length_nil, List.length_take, List.length_drop]); omega) (by omega) ?_; intro v_ w_ hs_; have n0_ := Aside0.mk hs_; clear HS hs_; have HS := n0_; clear n0_))
  go_ret
  refine ⟨_, rfl, ?_⟩
  have hs := HS.out
  first | exact hs | (simp only [List.nil_append, List.append_assoc, List.cons_append, List.append_nil] at hs ⊢; exact hs) | (simp at hs ⊢; exact hs)
set_option maxHeartbeats 4000000 in
set_option maxRecDepth 100000 in
theorem efg_2 (neg : Bool) (gs : Nat) (ds : List Int) (dp : Int) (nd : Nat) (hd : ds.length = 32) (hnd : nd ≤ 20) (hdp : -400 ≤ dp) (hdp2 : dp ≤ 400) (w0 w : World) (v : Value) (h : St w0 (some gs) ds w v [])
    (hneg : neg = true) (hn : nd = 1) (hx : dp - 1 < -4) (hz : -(dp - 1) < 10) :
    Calls Tryz.prog 99 #[v, .bool neg, .slice (some ⟨gs, 0, none⟩) 32 32, .int .i64 dp, .int .i64 nd, .int .i64 nd, .int .u8 103, .bool true] w fun e w' => ∃ v', e = .returned v' ∧ St w0 (some gs) ds w' v' (eV neg ds dp nd) := by
  subst hneg
  obtain ⟨d0, hd0⟩ : ∃ d0, ds[0]? = some d0 := ⟨ds[0]'(by omega), List.getElem?_eq_getElem (by omega)⟩
  have HD := Aside0.mk hd0
  obtain ⟨E, hE⟩ : ∃ E, -(dp - 1) = E := ⟨_, rfl⟩
  have hE0 : 0 ≤ E := by omega
  have hE1 : E ≤ 401 := by omega
  rw [hE] at hz
  have HV : Aside0 (eV true ds dp nd = [45] ++ [d0] ++ [] ++ [101] ++ (45 :: [48, E + 48])) := by
    refine ⟨?_⟩
    have hh : ds.headD 0 = d0 := by cases ds <;> simp_all
    unfold eV sgn expV dig2
    rw [if_neg (show ¬ nd = 0 by omega), if_neg (show ¬ nd = 0 by omega), hh]
    rw [if_neg (show ¬ 2 ≤ nd by omega)]
    rw [if_pos (show dp - 1 < 0 by omega), hE]
    rw [if_pos hz]
    simp
  rw [HV.out]
  have HS := Aside0.mk h
  clear h hd0 HV
  obtain rfl : nd = 1 := hn
  have c0 := (HS.out.src gs rfl).u8_at 0 d0 HD.out
  go_enter Tryz.func99, Tryz.ntmps99
  go_wp2_with (first | ((with_reducible refine gate_builtin (b := .append) (xs := #[.tmp 79, .tmp 80]) rfl ?_); at_builtin; refine app1 rfl (.tmp 79) (.tmp 80) rfl Tryz.underlying97 info5 _ HS.out rfl rfl (by (try simp only [List.length_append, List.length_cons, List.length_nil, List.length_take, List.length_drop]); omega) ?_; intro v_ w_ hs_; have n0_ := Aside0.mk hs_; clear HS hs_; have HS := n0_; clear n0_; clear c0; have c0 := (HS.out.src gs rfl).u8_at 0 d0 HD.out) | ((with_reducible refine gate_builtin (b := .append) (xs := #[.tmp 87, .tmp 89]) rfl ?_); at_builtin; refine app1 rfl (.tmp 87) (.tmp 89) rfl Tryz.underlying97 info5 _ HS.out rfl rfl (by (try simp only [List.length_append, List.length_cons, List.length_nil, List.length_take, List.length_drop]); omega) ?_; intro v_ w_ hs_; have n0_ := Aside0.mk hs_; clear HS hs_; have HS := n0_; clear n0_) | ((with_reducible refine gate_builtin (b := .append) (xs := #[.tmp 120, .tmp 122]) rfl ?_); at_builtin; refine app1 rfl (.tmp 120) (.tmp 122) rfl Tryz.underlying97 info5 _ HS.out rfl rfl (by (try simp only [List.length_append, List.length_cons, List.length_nil, List.length_take, List.length_drop]); omega) ?_; intro v_ w_ hs_; have n0_ := Aside0.mk hs_; clear HS hs_; have HS := n0_; clear n0_) | ((with_reducible refine gate_builtin (b := .append) (xs := #[.tmp 132, .tmp 134]) rfl ?_); at_builtin; refine app1 rfl (.tmp 132) (.tmp 134) rfl Tryz.underlying97 info5 _ HS.out rfl rfl (by (try simp only [List.length_append, List.length_cons, List.length_nil, List.length_take, List.length_drop]); omega) ?_; intro v_ w_ hs_; have n0_ := Aside0.mk hs_; clear HS hs_; have HS := n0_; clear n0_) | ((with_reducible refine gate_builtin (b := .append) (xs := #[.tmp 155, .tmp 159]) rfl ?_); at_builtin; refine appN rfl (.tmp 155) (.tmp 159) rfl Tryz.underlying97 info5 _ _ _ _ (HS.out.alloc _) (C_new2 _ _ _) rfl rfl (by (try simp only [List.length_append, List.length_cons, List.length_nil, List.length_take, List.length_drop]); omega) (by omega) ?_; intro v_ w_ hs_; have n0_ := Aside0.mk hs_; clear HS hs_; have HS := n0_; clear n0_))
  go_ret
  refine ⟨_, rfl, ?_⟩
  have hs := HS.out
  first | exact hs | (simp only [List.nil_append, List.append_assoc, List.cons_append, List.append_nil] at hs ⊢; exact hs) | (simp at hs ⊢; exact hs)
set_option maxHeartbeats 4000000 in
set_option maxRecDepth 100000 in
theorem efg_3 (neg : Bool) (gs : Nat) (ds : List Int) (dp : Int) (nd : Nat) (hd : ds.length = 32) (hnd : nd ≤ 20) (hdp : -400 ≤ dp) (hdp2 : dp ≤ 400) (w0 w : World) (v : Value) (h : St w0 (some gs) ds w v [])
    (hneg : neg = true) (hn : nd = 1) (hx : dp - 1 < -4) (hy : ¬ -(dp - 1) < 10) (hz : -(dp - 1) < 100) :
    Calls Tryz.prog 99 #[v, .bool neg, .slice (some ⟨gs, 0, none⟩) 32 32, .int .i64 dp, .int .i64 nd, .int .i64 nd, .int .u8 103, .bool true] w fun e w' => ∃ v', e = .returned v' ∧ St w0 (some gs) ds w' v' (eV neg ds dp nd) := by
  subst hneg
  obtain ⟨d0, hd0⟩ : ∃ d0, ds[0]? = some d0 := ⟨ds[0]'(by omega), List.getElem?_eq_getElem (by omega)⟩
  have HD := Aside0.mk hd0
  obtain ⟨E, hE⟩ : ∃ E, -(dp - 1) = E := ⟨_, rfl⟩
  have hE0 : 0 ≤ E := by omega
  have hE1 : E ≤ 401 := by omega
  rw [hE] at hy hz
  have HV : Aside0 (eV true ds dp nd = [45] ++ [d0] ++ [] ++ [101] ++ (45 :: [E / 10 + 48, E % 10 + 48])) := by
    refine ⟨?_⟩
    have hh : ds.headD 0 = d0 := by cases ds <;> simp_all
    unfold eV sgn expV dig2
    rw [if_neg (show ¬ nd = 0 by omega), if_neg (show ¬ nd = 0 by omega), hh]
    rw [if_neg (show ¬ 2 ≤ nd by omega)]
    rw [if_pos (show dp - 1 < 0 by omega), hE]
    rw [if_neg hy, if_pos hz]
    simp
  rw [HV.out]
  have HS := Aside0.mk h
  clear h hd0 HV
  obtain rfl : nd = 1 := hn
  have c0 := (HS.out.src gs rfl).u8_at 0 d0 HD.out
  go_enter Tryz.func99, Tryz.ntmps99
  go_wp2_with (first | ((with_reducible refine gate_builtin (b := .append) (xs := #[.tmp 79, .tmp 80]) rfl ?_); at_builtin; refine app1 rfl (.tmp 79) (.tmp 80) rfl Tryz.underlying97 info5 _ HS.out rfl rfl (by (try simp only [List.length_append, List.length_cons, List.length_nil, List.length_take, List.length_drop]); omega) ?_; intro v_ w_ hs_; have n0_ := Aside0.mk hs_; clear HS hs_; have HS := n0_; clear n0_; clear c0; have c0 := (HS.out.src gs rfl).u8_at 0 d0 HD.out) | ((with_reducible refine gate_builtin (b := .append) (xs := #[.tmp 87, .tmp 89]) rfl ?_); at_builtin; refine app1 rfl (.tmp 87) (.tmp 89) rfl Tryz.underlying97 info5 _ HS.out rfl rfl (by (try simp only [List.length_append, List.length_cons, List.length_nil, List.length_take, List.length_drop]); omega) ?_; intro v_ w_ hs_; have n0_ := Aside0.mk hs_; clear HS hs_; have HS := n0_; clear n0_) | ((with_reducible refine gate_builtin (b := .append) (xs := #[.tmp 120, .tmp 122]) rfl ?_); at_builtin; refine app1 rfl (.tmp 120) (.tmp 122) rfl Tryz.underlying97 info5 _ HS.out rfl rfl (by (try simp only [List.length_append, List.length_cons, List.length_nil, List.length_take, List.length_drop]); omega) ?_; intro v_ w_ hs_; have n0_ := Aside0.mk hs_; clear HS hs_; have HS := n0_; clear n0_) | ((with_reducible refine gate_builtin (b := .append) (xs := #[.tmp 132, .tmp 134]) rfl ?_); at_builtin; refine app1 rfl (.tmp 132) (.tmp 134) rfl Tryz.underlying97 info5 _ HS.out rfl rfl (by (try simp only [List.length_append, List.length_cons, List.length_nil, List.length_take, List.length_drop]); omega) ?_; intro v_ w_ hs_; have n0_ := Aside0.mk hs_; clear HS hs_; have HS := n0_; clear n0_) | ((with_reducible refine gate_builtin (b := .append) (xs := #[.tmp 164, .tmp 173]) rfl ?_); at_builtin; refine appN rfl (.tmp 164) (.tmp 173) rfl Tryz.underlying97 info5 _ _ _ _ (HS.out.alloc _) (C_new2 _ _ _) rfl rfl (by (try simp only [List.length_append, List.length_cons, List.length_nil, List.length_take, List.length_drop]); omega) (by omega) ?_; intro v_ w_ hs_; have n0_ := Aside0.mk hs_; clear HS hs_; have HS := n0_; clear n0_))
  go_ret
  refine ⟨_, rfl, ?_⟩
  have hs := HS.out
  first | exact hs | (simp only [List.nil_append, List.append_assoc, List.cons_append, List.append_nil] at hs ⊢; exact hs) | (simp at hs ⊢; exact hs)
set_option maxHeartbeats 4000000 in
set_option maxRecDepth 100000 in
theorem efg_4 (neg : Bool) (gs : Nat) (ds : List Int) (dp : Int) (nd : Nat) (hd : ds.length = 32) (hnd : nd ≤ 20) (hdp : -400 ≤ dp) (hdp2 : dp ≤ 400) (w0 w : World) (v : Value) (h : St w0 (some gs) ds w v [])
    (hneg : neg = true) (hn : nd = 1) (hx : dp - 1 < -4) (hy : ¬ -(dp - 1) < 100) :
    Calls Tryz.prog 99 #[v, .bool neg, .slice (some ⟨gs, 0, none⟩) 32 32, .int .i64 dp, .int .i64 nd, .int .i64 nd, .int .u8 103, .bool true] w fun e w' => ∃ v', e = .returned v' ∧ St w0 (some gs) ds w' v' (eV neg ds dp nd) := by
  subst hneg
  obtain ⟨d0, hd0⟩ : ∃ d0, ds[0]? = some d0 := ⟨ds[0]'(by omega), List.getElem?_eq_getElem (by omega)⟩
  have HD := Aside0.mk hd0
  obtain ⟨E, hE⟩ : ∃ E, -(dp - 1) = E := ⟨_, rfl⟩
  have hE0 : 0 ≤ E := by omega
  have hE1 : E ≤ 401 := by omega
  rw [hE] at hy
  have HV : Aside0 (eV true ds dp nd = [45] ++ [d0] ++ [] ++ [101] ++ (45 :: [E / 100 + 48, E / 10 % 10 + 48, E % 10 + 48])) := by
    refine ⟨?_⟩
    have hh : ds.headD 0 = d0 := by cases ds <;> simp_all
    unfold eV sgn expV dig2
    rw [if_neg (show ¬ nd = 0 by omega), if_neg (show ¬ nd = 0 by omega), hh]
    rw [if_neg (show ¬ 2 ≤ nd by omega)]
    rw [if_pos (show dp - 1 < 0 by omega), hE]
    rw [if_neg (show ¬ E < 10 by omega), if_neg hy]
    simp
  rw [HV.out]
  have HS := Aside0.mk h
  clear h hd0 HV
  obtain rfl : nd = 1 := hn
  have c0 := (HS.out.src gs rfl).u8_at 0 d0 HD.out
  go_enter Tryz.func99, Tryz.ntmps99
  go_wp2_with (first | ((with_reducible refine gate_builtin (b := .append) (xs := #[.tmp 79, .tmp 80]) rfl ?_); at_builtin; refine app1 rfl (.tmp 79) (.tmp 80) rfl Tryz.underlying97 info5 _ HS.out rfl rfl (by (try simp only [List.length_append, List.length_cons, List.length_nil, List.length_take, List.length_drop]); omega) ?_; intro v_ w_ hs_; have n0_ := Aside0.mk hs_; clear HS hs_; have HS := n0_; clear n0_; clear c0; have c0 := (HS.out.src gs rfl).u8_at 0 d0 HD.out) | ((with_reducible refine gate_builtin (b := .append) (xs := #[.tmp 87, .tmp 89]) rfl ?_); at_builtin; refine app1 rfl (.tmp 87) (.tmp 89) rfl Tryz.underlying97 info5 _ HS.out rfl rfl (by (try simp only [List.length_append, List.length_cons, List.length_nil, List.length_take, List.length_drop]); omega) ?_; intro v_ w_ hs_; have n0_ := Aside0.mk hs_; clear HS hs_; have HS := n0_; clear n0_) | ((with_reducible refine gate_builtin (b := .append) (xs := #[.tmp 120, .tmp 122]) rfl ?_); at_builtin; refine app1 rfl (.tmp 120) (.tmp 122) rfl Tryz.underlying97 info5 _ HS.out rfl rfl (by (try simp only [List.length_append, List.length_cons, List.length_nil, List.length_take, List.length_drop]); omega) ?_; intro v_ w_ hs_; have n0_ := Aside0.mk hs_; clear HS hs_; have HS := n0_; clear n0_) | ((with_reducible refine gate_builtin (b := .append) (xs := #[.tmp 132, .tmp 134]) rfl ?_); at_builtin; refine app1 rfl (.tmp 132) (.tmp 134) rfl Tryz.underlying97 info5 _ HS.out rfl rfl (by (try simp only [List.length_append, List.length_cons, List.length_nil, List.length_take, List.length_drop]); omega) ?_; intro v_ w_ hs_; have n0_ := Aside0.mk hs_; clear HS hs_; have HS := n0_; clear n0_) | ((with_reducible refine gate_builtin (b := .append) (xs := #[.tmp 136, .tmp 150]) rfl ?_); at_builtin; refine appN rfl (.tmp 136) (.tmp 150) rfl Tryz.underlying97 info5 _ _ _ _ (HS.out.alloc _) (C_new3 _ _ _ _) rfl rfl (by (try simp only [List.length_append, List.length_cons, List.length_nil, List.length_take, List.length_drop]); omega) (by omega) ?_; intro v_ w_ hs_; have n0_ := Aside0.mk hs_; clear HS hs_; have HS := n0_; clear n0_))
  go_ret
  refine ⟨_, rfl, ?_⟩
  have hs := HS.out
  first | exact hs | (simp only [List.nil_append, List.append_assoc, List.cons_append, List.append_nil] at hs ⊢; exact hs) | (simp at hs ⊢; exact hs)
set_option maxHeartbeats 4000000 in
set_option maxRecDepth 100000 in
theorem efg_5 (neg : Bool) (gs : Nat) (ds : List Int) (dp : Int) (nd : Nat) (hd : ds.length = 32) (hnd : nd ≤ 20) (hdp : -400 ≤ dp) (hdp2 : dp ≤ 400) (w0 w : World) (v : Value) (h : St w0 (some gs) ds w v [])
    (hneg : neg = true) (hn : nd = 1) (hx : 6 ≤ dp - 1) (hz : dp - 1 < 10) :
    Calls Tryz.prog 99 #[v, .bool neg, .slice (some ⟨gs, 0, none⟩) 32 32, .int .i64 dp, .int .i64 nd, .int .i64 nd, .int .u8 103, .bool true] w fun e w' => ∃ v', e = .returned v' ∧ St w0 (some gs) ds w' v' (eV neg ds dp nd) := by
  subst hneg
  obtain ⟨d0, hd0⟩ : ∃ d0, ds[0]? = some d0 := ⟨ds[0]'(by omega), List.getElem?_eq_getElem (by omega)⟩
  have HD := Aside0.mk hd0
  have HV : Aside0 (eV true ds dp nd = [45] ++ [d0] ++ [] ++ [101] ++ (43 :: [48, (dp - 1) + 48])) := by
    refine ⟨?_⟩
    have hh : ds.headD 0 = d0 := by cases ds <;> simp_all
    unfold eV sgn expV dig2
    rw [if_neg (show ¬ nd = 0 by omega), if_neg (show ¬ nd = 0 by omega), hh]
    rw [if_neg (show ¬ 2 ≤ nd by omega)]
    rw [if_neg (show ¬ dp - 1 < 0 by omega)]
    rw [if_pos hz]
    simp
  rw [HV.out]
  have HS := Aside0.mk h
  clear h hd0 HV
  obtain rfl : nd = 1 := hn
  have c0 := (HS.out.src gs rfl).u8_at 0 d0 HD.out
  go_enter Tryz.func99, Tryz.ntmps99
  go_wp2_with (first | ((with_reducible refine gate_builtin (b := .append) (xs := #[.tmp 79, .tmp 80]) rfl ?_); at_builtin; refine app1 rfl (.tmp 79) (.tmp 80) rfl Tryz.underlying97 info5 _ HS.out rfl rfl (by (try simp only [List.length_append, List.length_cons, List.length_nil, List.length_take, List.length_drop]); omega) ?_; intro v_ w_ hs_; have n0_ := Aside0.mk hs_; clear HS hs_; have HS := n0_; clear n0_; clear c0; have c0 := (HS.out.src gs rfl).u8_at 0 d0 HD.out) | ((with_reducible refine gate_builtin (b := .append) (xs := #[.tmp 87, .tmp 89]) rfl ?_); at_builtin; refine app1 rfl (.tmp 87) (.tmp 89) rfl Tryz.underlying97 info5 _ HS.out rfl rfl (by (try simp only [List.length_append, List.length_cons, List.length_nil, List.length_take, List.length_drop]); omega) ?_; intro v_ w_ hs_; have n0_ := Aside0.mk hs_; clear HS hs_; have HS := n0_; clear n0_) | ((with_reducible refine gate_builtin (b := .append) (xs := #[.tmp 120, .tmp 122]) rfl ?_); at_builtin; refine app1 rfl (.tmp 120) (.tmp 122) rfl Tryz.underlying97 info5 _ HS.out rfl rfl (by (try simp only [List.length_append, List.length_cons, List.length_nil, List.length_take, List.length_drop]); omega) ?_; intro v_ w_ hs_; have n0_ := Aside0.mk hs_; clear HS hs_; have HS := n0_; clear n0_) | ((with_reducible refine gate_builtin (b := .append) (xs := #[.tmp 132, .tmp 134]) rfl ?_); at_builtin; refine app1 rfl (.tmp 132) (.tmp 134) rfl Tryz.underlying97 info5 _ HS.out rfl rfl (by (try simp only [List.length_append, List.length_cons, List.length_nil, List.length_take, List.length_drop]); omega) ?_; intro v_ w_ hs_; have n0_ := Aside0.mk hs_; clear HS hs_; have HS := n0_; clear n0_) | ((with_reducible refine gate_builtin (b := .append) (xs := #[.tmp 155, .tmp 159]) rfl ?_); at_builtin; refine appN rfl (.tmp 155) (.tmp 159) rfl Tryz.underlying97 info5 _ _ _ _ (HS.out.alloc _) (C_new2 _ _ _) rfl rfl (by (try simp only [List.length_append, List.length_cons, List.length_nil, List.length_take, List.length_drop]); omega) (by omega) ?_; intro v_ w_ hs_; have n0_ := Aside0.mk hs_; clear HS hs_; have HS := n0_; clear n0_))
  go_ret
  refine ⟨_, rfl, ?_⟩
  have hs := HS.out
  first | exact hs | (simp only [List.nil_append, List.append_assoc, List.cons_append, List.append_nil] at hs ⊢; exact hs) | (simp at hs ⊢; exact hs)
set_option maxHeartbeats 4000000 in
set_option maxRecDepth 100000 in
theorem efg_6 (neg : Bool) (gs : Nat) (ds : List Int) (dp : Int) (nd : Nat) (hd : ds.length = 32) (hnd : nd ≤ 20) (hdp : -400 ≤ dp) (hdp2 : dp ≤ 400) (w0 w : World) (v : Value) (h : St w0 (some gs) ds w v [])
    (hneg : neg = true) (hn : nd = 1) (hx : 6 ≤ dp - 1) (hy : ¬ dp - 1 < 10) (hz : dp - 1 < 100) :
    Calls Tryz.prog 99 #[v, .bool neg, .slice (some ⟨gs, 0, none⟩) 32 32, .int .i64 dp, .int .i64 nd, .int .i64 nd, .int .u8 103, .bool true] w fun e w' => ∃ v', e = .returned v' ∧ St w0 (some gs) ds w' v' (eV neg ds dp nd) := by
  subst hneg
  obtain ⟨d0, hd0⟩ : ∃ d0, ds[0]? = some d0 := ⟨ds[0]'(by omega), List.getElem?_eq_getElem (by omega)⟩
  have HD := Aside0.mk hd0
  have HV : Aside0 (eV true ds dp nd = [45] ++ [d0] ++ [] ++ [101] ++ (43 :: [(dp - 1) / 10 + 48, (dp - 1) % 10 + 48])) := by
    refine ⟨?_⟩
    have hh : ds.headD 0 = d0 := by cases ds <;> simp_all
    unfold eV sgn expV dig2
    rw [if_neg (show ¬ nd = 0 by omega), if_neg (show ¬ nd = 0 by omega), hh]
    rw [if_neg (show ¬ 2 ≤ nd by omega)]
    rw [if_neg (show ¬ dp - 1 < 0 by omega)]
    rw [if_neg hy, if_pos hz]
    simp
  rw [HV.out]
  have HS := Aside0.mk h
  clear h hd0 HV
  obtain rfl : nd = 1 := hn
  have c0 := (HS.out.src gs rfl).u8_at 0 d0 HD.out
  go_enter Tryz.func99, Tryz.ntmps99
  go_wp2_with (first | ((with_reducible refine gate_builtin (b := .append) (xs := #[.tmp 79, .tmp 80]) rfl ?_); at_builtin; refine app1 rfl (.tmp 79) (.tmp 80) rfl Tryz.underlying97 info5 _ HS.out rfl rfl (by (try simp only [List.length_append, List.length_cons, List.length_nil, List.length_take, List.length_drop]); omega) ?_; intro v_ w_ hs_; have n0_ := Aside0.mk hs_; clear HS hs_; have HS := n0_; clear n0_; clear c0; have c0 := (HS.out.src gs rfl).u8_at 0 d0 HD.out) | ((with_reducible refine gate_builtin (b := .append) (xs := #[.tmp 87, .tmp 89]) rfl ?_); at_builtin; refine app1 rfl (.tmp 87) (.tmp 89) rfl Tryz.underlying97 info5 _ HS.out rfl rfl (by (try simp only [List.length_append, List.length_cons, List.length_nil, List.length_take, List.length_drop]); omega) ?_; intro v_ w_ hs_; have n0_ := Aside0.mk hs_; clear HS hs_; have HS := n0_; clear n0_) | ((with_reducible refine gate_builtin (b := .append) (xs := #[.tmp 120, .tmp 122]) rfl ?_); at_builtin; refine app1 rfl (.tmp 120) (.tmp 122) rfl Tryz.underlying97 info5 _ HS.out rfl rfl (by (try simp only [List.length_append, List.length_cons, List.length_nil, List.length_take, List.length_drop]); omega) ?_; intro v_ w_ hs_; have n0_ := Aside0.mk hs_; clear HS hs_; have HS := n0_; clear n0_) | ((with_reducible refine gate_builtin (b := .append) (xs := #[.tmp 132, .tmp 134]) rfl ?_); at_builtin; refine app1 rfl (.tmp 132) (.tmp 134) rfl Tryz.underlying97 info5 _ HS.out rfl rfl (by (try simp only [List.length_append, List.length_cons, List.length_nil, List.length_take, List.length_drop]); omega) ?_; intro v_ w_ hs_; have n0_ := Aside0.mk hs_; clear HS hs_; have HS := n0_; clear n0_) | ((with_reducible refine gate_builtin (b := .append) (xs := #[.tmp 164, .tmp 173]) rfl ?_); at_builtin; refine appN rfl (.tmp 164) (.tmp 173) rfl Tryz.underlying97 info5 _ _ _ _ (HS.out.alloc _) (C_new2 _ _ _) rfl rfl (by (try simp only [List.length_append, List.length_cons, List.length_nil, List.length_take, List.length_drop]); omega) (by omega) ?_; intro v_ w_ hs_; have n0_ := Aside0.mk hs_; clear HS hs_; have HS := n0_; clear n0_))
  go_ret
  refine ⟨_, rfl, ?_⟩
  have hs := HS.out
  first | exact hs | (simp only [List.nil_append, List.append_assoc, List.cons_append, List.append_nil] at hs ⊢; exact hs) | (simp at hs ⊢; exact hs)
set_option maxHeartbeats 4000000 in
set_option maxRecDepth 100000 in
theorem efg_7 (neg : Bool) (gs : Nat) (ds : List Int) (dp : Int) (nd : Nat) (hd : ds.length = 32) (hnd : nd ≤ 20) (hdp : -400 ≤ dp) (hdp2 : dp ≤ 400) (w0 w : World) (v : Value) (h : St w0 (some gs) ds w v [])
    (hneg : neg = true) (hn : nd = 1) (hx : 6 ≤ dp - 1) (hy : ¬ dp - 1 < 100) :
    Calls Tryz.prog 99 #[v, .bool neg, .slice (some ⟨gs, 0, none⟩) 32 32, .int .i64 dp, .int .i64 nd, .int .i64 nd, .int .u8 103, .bool true] w fun e w' => ∃ v', e = .returned v' ∧ St w0 (some gs) ds w' v' (eV neg ds dp nd) := by
  subst hneg
  obtain ⟨d0, hd0⟩ : ∃ d0, ds[0]? = some d0 := ⟨ds[0]'(by omega), List.getElem?_eq_getElem (by omega)⟩
  have HD := Aside0.mk hd0
  have HV : Aside0 (eV true ds dp nd = [45] ++ [d0] ++ [] ++ [101] ++ (43 :: [(dp - 1) / 100 + 48, (dp - 1) / 10 % 10 + 48, (dp - 1) % 10 + 48])) := by
    refine ⟨?_⟩
    have hh : ds.headD 0 = d0 := by cases ds <;> simp_all
    unfold eV sgn expV dig2
    rw [if_neg (show ¬ nd = 0 by omega), if_neg (show ¬ nd = 0 by omega), hh]
    rw [if_neg (show ¬ 2 ≤ nd by omega)]
    rw [if_neg (show ¬ dp - 1 < 0 by omega)]
    rw [if_neg (show ¬ (dp - 1) < 10 by omega), if_neg hy]
    simp
  rw [HV.out]
  have HS := Aside0.mk h
  clear h hd0 HV
  obtain rfl : nd = 1 := hn
  have c0 := (HS.out.src gs rfl).u8_at 0 d0 HD.out
  go_enter Tryz.func99, Tryz.ntmps99
  go_wp2_with (first | ((with_reducible refine gate_builtin (b := .append) (xs := #[.tmp 79, .tmp 80]) rfl ?_); at_builtin; refine app1 rfl (.tmp 79) (.tmp 80) rfl Tryz.underlying97 info5 _ HS.out rfl rfl (by (try simp only [List.length_append, List.length_cons, List.length_nil, List.length_take, List.length_drop]); omega) ?_; intro v_ w_ hs_; have n0_ := Aside0.mk hs_; clear HS hs_; have HS := n0_; clear n0_; clear c0; have c0 := (HS.out.src gs rfl).u8_at 0 d0 HD.out) | ((with_reducible refine gate_builtin (b := .append) (xs := #[.tmp 87, .tmp 89]) rfl ?_); at_builtin; refine app1 rfl (.tmp 87) (.tmp 89) rfl Tryz.underlying97 info5 _ HS.out rfl rfl (by (try simp only [List.length_append, List.length_cons, List.length_nil, List.length_take, List.length_drop]); omega) ?_; intro v_ w_ hs_; have n0_ := Aside0.mk hs_; clear HS hs_; have HS := n0_; clear n0_) | ((with_reducible refine gate_builtin (b := .append) (xs := #[.tmp 120, .tmp 122]) rfl ?_); at_builtin; refine app1 rfl (.tmp 120) (.tmp 122) rfl Tryz.underlying97 info5 _ HS.out rfl rfl (by (try simp only [List.length_append, List.length_cons, List.length_nil, List.length_take, List.length_drop]); omega) ?_; intro v_ w_ hs_; have n0_ := Aside0.mk hs_; clear HS hs_; have HS := n0_; clear n0_) | ((with_reducible refine gate_builtin (b := .append) (xs := #[.tmp 132, .tmp 134]) rfl ?_); at_builtin; refine app1 rfl (.tmp 132) (.tmp 134) rfl Tryz.underlying97 info5 _ HS.out rfl rfl (by (try simp only [List.length_append, List.length_cons, List.length_nil, List.length_take, List.length_drop]); omega) ?_; intro v_ w_ hs_; have n0_ := Aside0.mk hs_; clear HS hs_; have HS := n0_; clear n0_) | ((with_reducible refine gate_builtin (b := .append) (xs := #[.tmp 136, .tmp 150]) rfl ?_); at_builtin; refine appN rfl (.tmp 136) (.tmp 150) rfl Tryz.underlying97 info5 _ _ _ _ (HS.out.alloc _) (C_new3 _ _ _ _) rfl rfl (by (try simp only [List.length_append, List.length_cons, List.length_nil, List.length_take, List.length_drop]); omega) (by omega) ?_; intro v_ w_ hs_; have n0_ := Aside0.mk hs_; clear HS hs_; have HS := n0_; clear n0_))
  go_ret
  refine ⟨_, rfl, ?_⟩
  have hs := HS.out
  first | exact hs | (simp only [List.nil_append, List.append_assoc, List.cons_append, List.append_nil] at hs ⊢; exact hs) | (simp at hs ⊢; exact hs)
set_option maxHeartbeats 4000000 in
set_option maxRecDepth 100000 in
theorem efg_8 (neg : Bool) (gs : Nat) (ds : List Int) (dp : Int) (nd : Nat) (hd : ds.length = 32) (hnd : nd ≤ 20) (hdp : -400 ≤ dp) (hdp2 : dp ≤ 400) (w0 w : World) (v : Value) (h : St w0 (some gs) ds w v [])
    (hneg : neg = true) (hn : 2 ≤ nd) (hx : dp - 1 < -4) (hz : -(dp - 1) < 10) :
    Calls Tryz.prog 99 #[v, .bool neg, .slice (some ⟨gs, 0, none⟩) 32 32, .int .i64 dp, .int .i64 nd, .int .i64 nd, .int .u8 103, .bool true] w fun e w' => ∃ v', e = .returned v' ∧ St w0 (some gs) ds w' v' (eV neg ds dp nd) := by
  subst hneg
  obtain ⟨d0, hd0⟩ : ∃ d0, ds[0]? = some d0 := ⟨ds[0]'(by omega), List.getElem?_eq_getElem (by omega)⟩
  have HD := Aside0.mk hd0
  obtain ⟨E, hE⟩ : ∃ E, -(dp - 1) = E := ⟨_, rfl⟩
  have hE0 : 0 ≤ E := by omega
  have hE1 : E ≤ 401 := by omega
  rw [hE] at hz
  have HV : Aside0 (eV true ds dp nd = [45] ++ [d0] ++ (46 :: (ds.drop 1).take (nd - 1)) ++ [101] ++ (45 :: [48, E + 48])) := by
    refine ⟨?_⟩
    have hh : ds.headD 0 = d0 := by cases ds <;> simp_all
    unfold eV sgn expV dig2
    rw [if_neg (show ¬ nd = 0 by omega), if_neg (show ¬ nd = 0 by omega), hh]
    rw [if_pos hn]
    rw [if_pos (show dp - 1 < 0 by omega), hE]
    rw [if_pos hz]
    simp
  rw [HV.out]
  have HS := Aside0.mk h
  clear h hd0 HV
  have q1 : (nd : Int) - 1 > 0 := by omega
  have q2 : ¬ ((nd : Int) - 1 + 1 < (nd : Int)) := by omega
  have q3 : (1 : Int) < (nd : Int) := by omega
  have HN := Aside0.mk hn
  have HP := Aside0.mk hd
  have q4 : (nd : Int) ≤ 32 := by omega
  have q5 : ((nd : Int) == 0) = false := beq_eq_false_iff_ne.2 (by omega)
  have q6 : ((nd : Int) != 0) = true := bne_iff_ne.2 (by omega)
  clear hn hd
  have c0 := (HS.out.src gs rfl).u8_at 0 d0 HD.out
  go_enter Tryz.func99, Tryz.ntmps99
  go_wp2_with (first | ((with_reducible refine gate_builtin (b := .append) (xs := #[.tmp 79, .tmp 80]) rfl ?_); at_builtin; refine app1 rfl (.tmp 79) (.tmp 80) rfl Tryz.underlying97 info5 _ HS.out rfl rfl (by (try simp only [List.length_append, List.length_cons, List.length_nil, List.length_take, List.length_drop]); omega) ?_; intro v_ w_ hs_; have n0_ := Aside0.mk hs_; clear HS hs_; have HS := n0_; clear n0_; clear c0; have c0 := (HS.out.src gs rfl).u8_at 0 d0 HD.out) | ((with_reducible refine gate_builtin (b := .append) (xs := #[.tmp 87, .tmp 89]) rfl ?_); at_builtin; refine app1 rfl (.tmp 87) (.tmp 89) rfl Tryz.underlying97 info5 _ HS.out rfl rfl (by (try simp only [List.length_append, List.length_cons, List.length_nil, List.length_take, List.length_drop]); omega) ?_; intro v_ w_ hs_; have n0_ := Aside0.mk hs_; clear HS hs_; have HS := n0_; clear n0_) | ((with_reducible refine gate_builtin (b := .append) (xs := #[.tmp 93, .tmp 94]) rfl ?_); at_builtin; refine app1 rfl (.tmp 93) (.tmp 94) rfl Tryz.underlying97 info5 _ HS.out rfl rfl (by (try simp only [List.length_append, List.length_cons, List.length_nil, List.length_take, List.length_drop]); omega) ?_; intro v_ w_ hs_; have n0_ := Aside0.mk hs_; clear HS hs_; have HS := n0_; clear n0_) | ((with_reducible refine gate_builtin (b := .append) (xs := #[.tmp 103, .tmp 107]) rfl ?_); at_builtin; refine appN rfl (.tmp 103) (.tmp 107) rfl Tryz.underlying97 info5 _ _ _ _ HS.out (C_part (HS.out.src gs rfl) 1 (nd - 1) (by have := HP.out; omega) (by have := HP.out; omega)) rfl rfl (by (try simp only [List.length_append, List.length_cons, List.length_nil, List.length_take, List.length_drop]); omega) (by omega) ?_; intro v_ w_ hs_; have n0_ := Aside0.mk hs_; clear HS hs_; have HS := n0_; clear n0_) | ((with_reducible refine gate_builtin (b := .append) (xs := #[.tmp 120, .tmp 122]) rfl ?_); at_builtin; refine app1 rfl (.tmp 120) (.tmp 122) rfl Tryz.underlying97 info5 _ HS.out rfl rfl (by (try simp only [List.length_append, List.length_cons, List.length_nil, List.length_take, List.length_drop]); omega) ?_; intro v_ w_ hs_; have n0_ := Aside0.mk hs_; clear HS hs_; have HS := n0_; clear n0_) | ((with_reducible refine gate_builtin (b := .append) (xs := #[.tmp 132, .tmp 134]) rfl ?_); at_builtin; refine app1 rfl (.tmp 132) (.tmp 134) rfl Tryz.underlying97 info5 _ HS.out rfl rfl (by (try simp only [List.length_append, List.length_cons, List.length_nil, List.length_take, List.length_drop]); omega) ?_; intro v_ w_ hs_; have n0_ := Aside0.mk hs_; clear HS hs_; have HS := n0_; clear n0_) | ((with_reducible refine gate_builtin (b := .append) (xs := #[.tmp 155, .tmp 159]) rfl ?_); at_builtin; refine appN rfl (.tmp 155) (.tmp 159) rfl Tryz.underlying97 info5 _ _ _ _ (HS.out.alloc _) (C_new2 _ _ _) rfl rfl (by (try simp only [List.length_append, List.length_cons, List.length_nil, List.length_take, List.length_drop]); omega) (by omega) ?_; intro v_ w_ hs_; have n0_ := Aside0.mk hs_; clear HS hs_; have HS := n0_; clear n0_))
  refine wp_loop_rounds 1 ?_
  rw [rounds_succ]
  go_wp2_with (first | ((with_reducible refine gate_builtin (b := .append) (xs := #[.tmp 79, .tmp 80]) rfl ?_); at_builtin; refine app1 rfl (.tmp 79) (.tmp 80) rfl Tryz.underlying97 info5 _ HS.out rfl rfl (by (try simp only [List.length_append, List.length_cons, List.length_nil, List.length_take, List.length_drop]); omega) ?_; intro v_ w_ hs_; have n0_ := Aside0.mk hs_; clear HS hs_; have HS := n0_; clear n0_; clear c0; have c0 := (HS.out.src gs rfl).u8_at 0 d0 HD.out) | ((with_reducible refine gate_builtin (b := .append) (xs := #[.tmp 87, .tmp 89]) rfl ?_); at_builtin; refine app1 rfl (.tmp 87) (.tmp 89) rfl Tryz.underlying97 info5 _ HS.out rfl rfl (by (try simp only [List.length_append, List.length_cons, List.length_nil, List.length_take, List.length_drop]); omega) ?_; intro v_ w_ hs_; have n0_ := Aside0.mk hs_; clear HS hs_; have HS := n0_; clear n0_) | ((with_reducible refine gate_builtin (b := .append) (xs := #[.tmp 93, .tmp 94]) rfl ?_); at_builtin; refine app1 rfl (.tmp 93) (.tmp 94) rfl Tryz.underlying97 info5 _ HS.out rfl rfl (by (try simp only [List.length_append, List.length_cons, List.length_nil, List.length_take, List.length_drop]); omega) ?_; intro v_ w_ hs_; have n0_ := Aside0.mk hs_; clear HS hs_; have HS := n0_; clear n0_) | ((with_reducible refine gate_builtin (b := .append) (xs := #[.tmp 103, .tmp 107]) rfl ?_); at_builtin; refine appN rfl (.tmp 103) (.tmp 107) rfl Tryz.underlying97 info5 _ _ _ _ HS.out (C_part (HS.out.src gs rfl) 1 (nd - 1) (by have := HP.out; omega) (by have := HP.out; omega)) rfl rfl (by (try simp only [List.length_append, List.length_cons, List.length_nil, List.length_take, List.length_drop]); omega) (by omega) ?_; intro v_ w_ hs_; have n0_ := Aside0.mk hs_; clear HS hs_; have HS := n0_; clear n0_) | ((with_reducible refine gate_builtin (b := .append) (xs := #[.tmp 120, .tmp 122]) rfl ?_); at_builtin; refine app1 rfl (.tmp 120) (.tmp 122) rfl Tryz.underlying97 info5 _ HS.out rfl rfl (by (try simp only [List.length_append, List.length_cons, List.length_nil, List.length_take, List.length_drop]); omega) ?_; intro v_ w_ hs_; have n0_ := Aside0.mk hs_; clear HS hs_; have HS := n0_; clear n0_) | ((with_reducible refine gate_builtin (b := .append) (xs := #[.tmp 132, .tmp 134]) rfl ?_); at_builtin; refine app1 rfl (.tmp 132) (.tmp 134) rfl Tryz.underlying97 info5 _ HS.out rfl rfl (by (try simp only [List.length_append, List.length_cons, List.length_nil, List.length_take, List.length_drop]); omega) ?_; intro v_ w_ hs_; have n0_ := Aside0.mk hs_; clear HS hs_; have HS := n0_; clear n0_) | ((with_reducible refine gate_builtin (b := .append) (xs := #[.tmp 155, .tmp 159]) rfl ?_); at_builtin; refine appN rfl (.tmp 155) (.tmp 159) rfl Tryz.underlying97 info5 _ _ _ _ (HS.out.alloc _) (C_new2 _ _ _) rfl rfl (by (try simp only [List.length_append, List.length_cons, List.length_nil, List.length_take, List.length_drop]); omega) (by omega) ?_; intro v_ w_ hs_; have n0_ := Aside0.mk hs_; clear HS hs_; have HS := n0_; clear n0_))
  go_ret
  refine ⟨_, rfl, ?_⟩
  have hs := HS.out
  first | exact hs | (simp only [List.nil_append, List.append_assoc, List.cons_append, List.append_nil] at hs ⊢; exact hs) | (simp at hs ⊢; exact hs)
set_option maxHeartbeats 4000000 in
set_option maxRecDepth 100000 in
theorem efg_9 (neg : Bool) (gs : Nat) (ds : List Int) (dp : Int) (nd : Nat) (hd : ds.length = 32) (hnd : nd ≤ 20) (hdp : -400 ≤ dp) (hdp2 : dp ≤ 400) (w0 w : World) (v : Value) (h : St w0 (some gs) ds w v [])
    (hneg : neg = true) (hn : 2 ≤ nd) (hx : dp - 1 < -4) (hy : ¬ -(dp - 1) < 10) (hz : -(dp - 1) < 100) :
    Calls Tryz.prog 99 #[v, .bool neg, .slice (some ⟨gs, 0, none⟩) 32 32, .int .i64 dp, .int .i64 nd, .int .i64 nd, .int .u8 103, .bool true] w fun e w' => ∃ v', e = .returned v' ∧ St w0 (some gs) ds w' v' (eV neg ds dp nd) := by
  subst hneg
  obtain ⟨d0, hd0⟩ : ∃ d0, ds[0]? = some d0 := ⟨ds[0]'(by omega), List.getElem?_eq_getElem (by omega)⟩
  have HD := Aside0.mk hd0
  obtain ⟨E, hE⟩ : ∃ E, -(dp - 1) = E := ⟨_, rfl⟩
  have hE0 : 0 ≤ E := by omega
  have hE1 : E ≤ 401 := by omega
  rw [hE] at hy hz
  have HV : Aside0 (eV true ds dp nd = [45] ++ [d0] ++ (46 :: (ds.drop 1).take (nd - 1)) ++ [101] ++ (45 :: [E / 10 + 48, E % 10 + 48])) := by
    refine ⟨?_⟩
    have hh : ds.headD 0 = d0 := by cases ds <;> simp_all
    unfold eV sgn expV dig2
    rw [if_neg (show ¬ nd = 0 by omega), if_neg (show ¬ nd = 0 by omega), hh]
    rw [if_pos hn]
    rw [if_pos (show dp - 1 < 0 by omega), hE]
    rw [if_neg hy, if_pos hz]
    simp
  rw [HV.out]
  have HS := Aside0.mk h
  clear h hd0 HV
  have q1 : (nd : Int) - 1 > 0 := by omega
  have q2 : ¬ ((nd : Int) - 1 + 1 < (nd : Int)) := by omega
  have q3 : (1 : Int) < (nd : Int) := by omega
  have HN := Aside0.mk hn
  have HP := Aside0.mk hd
  have q4 : (nd : Int) ≤ 32 := by omega
  have q5 : ((nd : Int) == 0) = false := beq_eq_false_iff_ne.2 (by omega)
  have q6 : ((nd : Int) != 0) = true := bne_iff_ne.2 (by omega)
  clear hn hd
  have c0 := (HS.out.src gs rfl).u8_at 0 d0 HD.out
  go_enter Tryz.func99, Tryz.ntmps99
  go_wp2_with (first | ((with_reducible refine gate_builtin (b := .append) (xs := #[.tmp 79, .tmp 80]) rfl ?_); at_builtin; refine app1 rfl (.tmp 79) (.tmp 80) rfl Tryz.underlying97 info5 _ HS.out rfl rfl (by (try simp only [List.length_append, List.length_cons, List.length_nil, List.length_take, List.length_drop]); omega) ?_; intro v_ w_ hs_; have n0_ := Aside0.mk hs_; clear HS hs_; have HS := n0_; clear n0_; clear c0; have c0 := (HS.out.src gs rfl).u8_at 0 d0 HD.out) | ((with_reducible refine gate_builtin (b := .append) (xs := #[.tmp 87, .tmp 89]) rfl ?_); at_builtin; refine app1 rfl (.tmp 87) (.tmp 89) rfl Tryz.underlying97 info5 _ HS.out rfl rfl (by (try simp only [List.length_append, List.length_cons, List.length_nil, List.length_take, List.length_drop]); omega) ?_; intro v_ w_ hs_; have n0_ := Aside0.mk hs_; clear HS hs_; have HS := n0_; clear n0_) | ((with_reducible refine gate_builtin (b := .append) (xs := #[.tmp 93, .tmp 94]) rfl ?_); at_builtin; refine app1 rfl (.tmp 93) (.tmp 94) rfl Tryz.underlying97 info5 _ HS.out rfl rfl (by (try simp only [List.length_append, List.length_cons, List.length_nil, List.length_take, List.length_drop]); omega) ?_; intro v_ w_ hs_; have n0_ := Aside0.mk hs_; clear HS hs_; have HS := n0_; clear n0_) | ((with_reducible refine gate_builtin (b := .append) (xs := #[.tmp 103, .tmp 107]) rfl ?_); at_builtin; refine appN rfl (.tmp 103) (.tmp 107) rfl Tryz.underlying97 info5 _ _ _ _ HS.out (C_part (HS.out.src gs rfl) 1 (nd - 1) (by have := HP.out; omega) (by have := HP.out; omega)) rfl rfl (by (try simp only [List.length_append, List.length_cons, List.length_nil, List.length_take, List.length_drop]); omega) (by omega) ?_; intro v_ w_ hs_; have n0_ := Aside0.mk hs_; clear HS hs_; have HS := n0_; clear n0_) | ((with_reducible refine gate_builtin (b := .append) (xs := #[.tmp 120, .tmp 122]) rfl ?_); at_builtin; refine app1 rfl (.tmp 120) (.tmp 122) rfl Tryz.underlying97 info5 _ HS.out rfl rfl (by (try simp only [List.length_append, List.length_cons, List.length_nil, List.length_take, List.length_drop]); omega) ?_; intro v_ w_ hs_; have n0_ := Aside0.mk hs_; clear HS hs_; have HS := n0_; clear n0_) | ((with_reducible refine gate_builtin (b := .append) (xs := #[.tmp 132, .tmp 134]) rfl ?_); at_builtin; refine app1 rfl (.tmp 132) (.tmp 134) rfl Tryz.underlying97 info5 _ HS.out rfl rfl (by (try simp only [List.length_append, List.length_cons, List.length_nil, List.length_take, List.length_drop]); omega) ?_; intro v_ w_ hs_; have n0_ := Aside0.mk hs_; clear HS hs_; have HS := n0_; clear n0_) | ((with_reducible refine gate_builtin (b := .append) (xs := #[.tmp 164, .tmp 173]) rfl ?_); at_builtin; refine appN rfl (.tmp 164) (.tmp 173) rfl Tryz.underlying97 info5 _ _ _ _ (HS.out.alloc _) (C_new2 _ _ _) rfl rfl (by (try simp only [List.length_append, List.length_cons, List.length_nil, List.length_take, List.length_drop]); omega) (by omega) ?_; intro v_ w_ hs_; have n0_ := Aside0.mk hs_; clear HS hs_; have HS := n0_; clear n0_))
  refine wp_loop_rounds 1 ?_
  rw [rounds_succ]
  go_wp2_with (first | ((with_reducible refine gate_builtin (b := .append) (xs := #[.tmp 79, .tmp 80]) rfl ?_); at_builtin; refine app1 rfl (.tmp 79) (.tmp 80) rfl Tryz.underlying97 info5 _ HS.out rfl rfl (by (try simp only [List.length_append, List.length_cons, List.length_nil, List.length_take, List.length_drop]); omega) ?_; intro v_ w_ hs_; have n0_ := Aside0.mk hs_; clear HS hs_; have HS := n0_; clear n0_; clear c0; have c0 := (HS.out.src gs rfl).u8_at 0 d0 HD.out) | ((with_reducible refine gate_builtin (b := .append) (xs := #[.tmp 87, .tmp 89]) rfl ?_); at_builtin; refine app1 rfl (.tmp 87) (.tmp 89) rfl Tryz.underlying97 info5 _ HS.out rfl rfl (by (try simp only [List.length_append, List.length_cons, List.length_nil, List.length_take, List.length_drop]); omega) ?_; intro v_ w_ hs_; have n0_ := Aside0.mk hs_; clear HS hs_; have HS := n0_; clear n0_) | ((with_reducible refine gate_builtin (b := .append) (xs := #[.tmp 93, .tmp 94]) rfl ?_); at_builtin; refine app1 rfl (.tmp 93) (.tmp 94) rfl Tryz.underlying97 info5 _ HS.out rfl rfl (by (try simp only [List.length_append, List.length_cons, List.length_nil, List.length_take, List.length_drop]); omega) ?_; intro v_ w_ hs_; have n0_ := Aside0.mk hs_; clear HS hs_; have HS := n0_; clear n0_) | ((with_reducible refine gate_builtin (b := .append) (xs := #[.tmp 103, .tmp 107]) rfl ?_); at_builtin; refine appN rfl (.tmp 103) (.tmp 107) rfl Tryz.underlying97 info5 _ _ _ _ HS.out (C_part (HS.out.src gs rfl) 1 (nd - 1) (by have := HP.out; omega) (by have := HP.out; omega)) rfl rfl (by (try simp only [List.length_append, List.length_cons, List.length_nil, List.length_take, List.length_drop]); omega) (by omega) ?_; intro v_ w_ hs_; have n0_ := Aside0.mk hs_; clear HS hs_; have HS := n0_; clear n0_) | ((with_reducible refine gate_builtin (b := .append) (xs := #[.tmp 120, .tmp 122]) rfl ?_); at_builtin; refine app1 rfl (.tmp 120) (.tmp 122) rfl Tryz.underlying97 info5 _ HS.out rfl rfl (by (try simp only [List.length_append, List.length_cons, List.length_nil, List.length_take, List.length_drop]); omega) ?_; intro v_ w_ hs_; have n0_ := Aside0.mk hs_; clear HS hs_; have HS := n0_; clear n0_) | ((with_reducible refine gate_builtin (b := .append) (xs := #[.tmp 132, .tmp 134]) rfl ?_); at_builtin; refine app1 rfl (.tmp 132) (.tmp 134) rfl Tryz.underlying97 info5 _ HS.out rfl rfl (by (try simp only [List.length_append, List.length_cons, List.length_nil, List.length_take, List.length_drop]); omega) ?_; intro v_ w_ hs_; have n0_ := Aside0.mk hs_; clear HS hs_; have HS := n0_; clear n0_) | ((with_reducible refine gate_builtin (b := .append) (xs := #[.tmp 164, .tmp 173]) rfl ?_); at_builtin; refine appN rfl (.tmp 164) (.tmp 173) rfl Tryz.underlying97 info5 _ _ _ _ (HS.out.alloc _) (C_new2 _ _ _) rfl rfl (by (try simp only [List.length_append, List.length_cons, List.length_nil, List.length_take, List.length_drop]); omega) (by omega) ?_; intro v_ w_ hs_; have n0_ := Aside0.mk hs_; clear HS hs_; have HS := n0_; clear n0_))
  go_ret
  refine ⟨_, rfl, ?_⟩
  have hs := HS.out
  first | exact hs | (simp only [List.nil_append, List.append_assoc, List.cons_append, List.append_nil] at hs ⊢; exact hs) | (simp at hs ⊢; exact hs)
set_option maxHeartbeats 4000000 in
set_option maxRecDepth 100000 in
theorem efg_10 (neg : Bool) (gs : Nat) (ds : List Int) (dp : Int) (nd : Nat) (hd : ds.length = 32) (hnd : nd ≤ 20) (hdp : -400 ≤ dp) (hdp2 : dp ≤ 400) (w0 w : World) (v : Value) (h : St w0 (some gs) ds w v [])
    (hneg : neg = true) (hn : 2 ≤ nd) (hx : dp - 1 < -4) (hy : ¬ -(dp - 1) < 100) :
    Calls Tryz.prog 99 #[v, .bool neg, .slice (some ⟨gs, 0, none⟩) 32 32, .int .i64 dp, .int .i64 nd, .int .i64 nd, .int .u8 103, .bool true] w fun e w' => ∃ v', e = .returned v' ∧ St w0 (some gs) ds w' v' (eV neg ds dp nd) := by
  subst hneg
  obtain ⟨d0, hd0⟩ : ∃ d0, ds[0]? = some d0 := ⟨ds[0]'(by omega), List.getElem?_eq_getElem (by omega)⟩
  have HD := Aside0.mk hd0
  obtain ⟨E, hE⟩ : ∃ E, -(dp - 1) = E := ⟨_, rfl⟩
  have hE0 : 0 ≤ E := by omega
  have hE1 : E ≤ 401 := by omega
  rw [hE] at hy
  have HV : Aside0 (eV true ds dp nd = [45] ++ [d0] ++ (46 :: (ds.drop 1).take (nd - 1)) ++ [101] ++ (45 :: [E / 100 + 48, E / 10 % 10 + 48, E % 10 + 48])) := by
    refine ⟨?_⟩
    have hh : ds.headD 0 = d0 := by cases ds <;> simp_all
    unfold eV sgn expV dig2
    rw [if_neg (show ¬ nd = 0 by omega), if_neg (show ¬ nd = 0 by omega), hh]
    rw [if_pos hn]
    rw [if_pos (show dp - 1 < 0 by omega), hE]
    rw [if_neg (show ¬ E < 10 by omega), if_neg hy]
    simp
  rw [HV.out]
  have HS := Aside0.mk h
  clear h hd0 HV
  have q1 : (nd : Int) - 1 > 0 := by omega
  have q2 : ¬ ((nd : Int) - 1 + 1 < (nd : Int)) := by omega
  have q3 : (1 : Int) < (nd : Int) := by omega
  have HN := Aside0.mk hn
  have HP := Aside0.mk hd
  have q4 : (nd : Int) ≤ 32 := by omega
  have q5 : ((nd : Int) == 0) = false := beq_eq_false_iff_ne.2 (by omega)
  have q6 : ((nd : Int) != 0) = true := bne_iff_ne.2 (by omega)
  clear hn hd
  have c0 := (HS.out.src gs rfl).u8_at 0 d0 HD.out
  go_enter Tryz.func99, Tryz.ntmps99
  go_wp2_with (first | ((with_reducible refine gate_builtin (b := .append) (xs := #[.tmp 79, .tmp 80]) rfl ?_); at_builtin; refine app1 rfl (.tmp 79) (.tmp 80) rfl Tryz.underlying97 info5 _ HS.out rfl rfl (by (try simp only [List.length_append, List.length_cons, List.length_nil, List.length_take, List.length_drop]); omega) ?_; intro v_ w_ hs_; have n0_ := Aside0.mk hs_; clear HS hs_; have HS := n0_; clear n0_; clear c0; have c0 := (HS.out.src gs rfl).u8_at 0 d0 HD.out) | ((with_reducible refine gate_builtin (b := .append) (xs := #[.tmp 87, .tmp 89]) rfl ?_); at_builtin; refine app1 rfl (.tmp 87) (.tmp 89) rfl Tryz.underlying97 info5 _ HS.out rfl rfl (by (try simp only [List.length_append, List.length_cons, List.length_nil, List.length_take, List.length_drop]); omega) ?_; intro v_ w_ hs_; have n0_ := Aside0.mk hs_; clear HS hs_; have HS := n0_; clear n0_) | ((with_reducible refine gate_builtin (b := .append) (xs := #[.tmp 93, .tmp 94]) rfl ?_); at_builtin; refine app1 rfl (.tmp 93) (.tmp 94) rfl Tryz.underlying97 info5 _ HS.out rfl rfl (by (try simp only [List.length_append, List.length_cons, List.length_nil, List.length_take, List.length_drop]); omega) ?_; intro v_ w_ hs_; have n0_ := Aside0.mk hs_; clear HS hs_; have HS := n0_; clear n0_) | ((with_reducible refine gate_builtin (b := .append) (xs := #[.tmp 103, .tmp 107]) rfl ?_); at_builtin; refine appN rfl (.tmp 103) (.tmp 107) rfl Tryz.underlying97 info5 _ _ _ _ HS.out (C_part (HS.out.src gs rfl) 1 (nd - 1) (by have := HP.out; omega) (by have := HP.out; omega)) rfl rfl (by (try simp only [List.length_append, List.length_cons, List.length_nil, List.length_take, List.length_drop]); omega) (by omega) ?_; intro v_ w_ hs_; have n0_ := Aside0.mk hs_; clear HS hs_; have HS := n0_; clear n0_) | ((with_reducible refine gate_builtin (b := .append) (xs := #[.tmp 120, .tmp 122]) rfl ?_); at_builtin; refine app1 rfl (.tmp 120) (.tmp 122) rfl Tryz.underlying97 info5 _ HS.out rfl rfl (by (try simp only [List.length_append, List.length_cons, List.length_nil, List.length_take, List.length_drop]); omega) ?_; intro v_ w_ hs_; have n0_ := Aside0.mk hs_; clear HS hs_; have HS := n0_; clear n0_) | ((with_reducible refine gate_builtin (b := .append) (xs := #[.tmp 132, .tmp 134]) rfl ?_); at_builtin; refine app1 rfl (.tmp 132) (.tmp 134) rfl Tryz.underlying97 info5 _ HS.out rfl rfl (by (try simp only [List.length_append, List.length_cons, List.length_nil, List.length_take, List.length_drop]); omega) ?_; intro v_ w_ hs_; have n0_ := Aside0.mk hs_; clear HS hs_; have HS := n0_; clear n0_) | ((with_reducible refine gate_builtin (b := .append) (xs := #[.tmp 136, .tmp 150]) rfl ?_); at_builtin; refine appN rfl (.tmp 136) (.tmp 150) rfl Tryz.underlying97 info5 _ _ _ _ (HS.out.alloc _) (C_new3 _ _ _ _) rfl rfl (by (try simp only [List.length_append, List.length_cons, List.length_nil, List.length_take, List.length_drop]); omega) (by omega) ?_; intro v_ w_ hs_; have n0_ := Aside0.mk hs_; clear HS hs_; have HS := n0_; clear n0_))
  refine wp_loop_rounds 1 ?_
  rw [rounds_succ]
  go_wp2_with (first | ((with_reducible refine gate_builtin (b := .append) (xs := #[.tmp 79, .tmp 80]) rfl ?_); at_builtin; refine app1 rfl (.tmp 79) (.tmp 80) rfl Tryz.underlying97 info5 _ HS.out rfl rfl (by (try simp only [List.length_append, List.length_cons, List.length_nil, List.length_take, List.length_drop]); omega) ?_; intro v_ w_ hs_; have n0_ := Aside0.mk hs_; clear HS hs_; have HS := n0_; clear n0_; clear c0; have c0 := (HS.out.src gs rfl).u8_at 0 d0 HD.out) | ((with_reducible refine gate_builtin (b := .append) (xs := #[.tmp 87, .tmp 89]) rfl ?_); at_builtin; refine app1 rfl (.tmp 87) (.tmp 89) rfl Tryz.underlying97 info5 _ HS.out rfl rfl (by (try simp only [List.length_append, List.length_cons, List.length_nil, List.length_take, List.length_drop]); omega) ?_; intro v_ w_ hs_; have n0_ := Aside0.mk hs_; clear HS hs_; have HS := n0_; clear n0_) | ((with_reducible refine gate_builtin (b := .append) (xs := #[.tmp 93, .tmp 94]) rfl ?_); at_builtin; refine app1 rfl (.tmp 93) (.tmp 94) rfl Tryz.underlying97 info5 _ HS.out rfl rfl (by (try simp only [List.length_append, List.length_cons, List.length_nil, List.length_take, List.length_drop]); omega) ?_; intro v_ w_ hs_; have n0_ := Aside0.mk hs_; clear HS hs_; have HS := n0_; clear n0_) | ((with_reducible refine gate_builtin (b := .append) (xs := #[.tmp 103, .tmp 107]) rfl ?_); at_builtin; refine appN rfl (.tmp 103) (.tmp 107) rfl Tryz.underlying97 info5 _ _ _ _ HS.out (C_part (HS.out.src gs rfl) 1 (nd - 1) (by have := HP.out; omega) (by have := HP.out; omega)) rfl rfl (by (try simp only [List.length_append, List.length_cons, List.length_nil, List.length_take, List.length_drop]); omega) (by omega) ?_; intro v_ w_ hs_; have n0_ := Aside0.mk hs_; clear HS hs_; have HS := n0_; clear n0_) | ((with_reducible refine gate_builtin (b := .append) (xs := #[.tmp 120, .tmp 122]) rfl ?_); at_builtin; refine app1 rfl (.tmp 120) (.tmp 122) rfl Tryz.underlying97 info5 _ HS.out rfl rfl (by (try simp only [List.length_append, List.length_cons, List.length_nil, List.length_take, List.length_drop]); omega) ?_; intro v_ w_ hs_; have n0_ := Aside0.mk hs_; clear HS hs_; have HS := n0_; clear n0_) | ((with_reducible refine gate_builtin (b := .append) (xs := #[.tmp 132, .tmp 134]) rfl ?_); at_builtin; refine app1 rfl (.tmp 132) (.tmp 134) rfl Tryz.underlying97 info5 _ HS.out rfl rfl (by (try simp only [List.length_append, List.length_cons, List.length_nil, List.length_take, List.length_drop]); omega) ?_; intro v_ w_ hs_; have n0_ := Aside0.mk hs_; clear HS hs_; have HS := n0_; clear n0_) | ((with_reducible refine gate_builtin (b := .append) (xs := #[.tmp 136, .tmp 150]) rfl ?_); at_builtin; refine appN rfl (.tmp 136) (.tmp 150) rfl Tryz.underlying97 info5 _ _ _ _ (HS.out.alloc _) (C_new3 _ _ _ _) rfl rfl (by (try simp only [List.length_append, List.length_cons, List.length_nil, List.length_take, List.length_drop]); omega) (by omega) ?_; intro v_ w_ hs_; have n0_ := Aside0.mk hs_; clear HS hs_; have HS := n0_; clear n0_))
  go_ret
  refine ⟨_, rfl, ?_⟩
  have hs := HS.out
  first | exact hs | (simp only [List.nil_append, List.append_assoc, List.cons_append, List.append_nil] at hs ⊢; exact hs) | (simp at hs ⊢; exact hs)
set_option maxHeartbeats 4000000 in
set_option maxRecDepth 100000 in
theorem efg_11 (neg : Bool) (gs : Nat) (ds : List Int) (dp : Int) (nd : Nat) (hd : ds.length = 32) (hnd : nd ≤ 20) (hdp : -400 ≤ dp) (hdp2 : dp ≤ 400) (w0 w : World) (v : Value) (h : St w0 (some gs) ds w v [])
    (hneg : neg = true) (hn : 2 ≤ nd) (hx : 6 ≤ dp - 1) (hz : dp - 1 < 10) :
    Calls Tryz.prog 99 #[v, .bool neg, .slice (some ⟨gs, 0, none⟩) 32 32, .int .i64 dp, .int .i64 nd, .int .i64 nd, .int .u8 103, .bool true] w fun e w' => ∃ v', e = .returned v' ∧ St w0 (some gs) ds w' v' (eV neg ds dp nd) := by
  subst hneg
  obtain ⟨d0, hd0⟩ : ∃ d0, ds[0]? = some d0 := ⟨ds[0]'(by omega), List.getElem?_eq_getElem (by omega)⟩
  have HD := Aside0.mk hd0
  have HV : Aside0 (eV true ds dp nd = [45] ++ [d0] ++ (46 :: (ds.drop 1).take (nd - 1)) ++ [101] ++ (43 :: [48, (dp - 1) + 48])) := by
    refine ⟨?_⟩
    have hh : ds.headD 0 = d0 := by cases ds <;> simp_all
    unfold eV sgn expV dig2
    rw [if_neg (show ¬ nd = 0 by omega), if_neg (show ¬ nd = 0 by omega), hh]
    rw [if_pos hn]
    rw [if_neg (show ¬ dp - 1 < 0 by omega)]
    rw [if_pos hz]
    simp
  rw [HV.out]
  have HS := Aside0.mk h
  clear h hd0 HV
  have q1 : (nd : Int) - 1 > 0 := by omega
  have q2 : ¬ ((nd : Int) - 1 + 1 < (nd : Int)) := by omega
  have q3 : (1 : Int) < (nd : Int) := by omega
  have HN := Aside0.mk hn
  have HP := Aside0.mk hd
  have q4 : (nd : Int) ≤ 32 := by omega
  have q5 : ((nd : Int) == 0) = false := beq_eq_false_iff_ne.2 (by omega)
  have q6 : ((nd : Int) != 0) = true := bne_iff_ne.2 (by omega)
  clear hn hd
  have c0 := (HS.out.src gs rfl).u8_at 0 d0 HD.out
  go_enter Tryz.func99, Tryz.ntmps99
  go_wp2_with (first | ((with_reducible refine gate_builtin (b := .append) (xs := #[.tmp 79, .tmp 80]) rfl ?_); at_builtin; refine app1 rfl (.tmp 79) (.tmp 80) rfl Tryz.underlying97 info5 _ HS.out rfl rfl (by (try simp only [List.length_append, List.length_cons, List.length_nil, List.length_take, List.length_drop]); omega) ?_; intro v_ w_ hs_; have n0_ := Aside0.mk hs_; clear HS hs_; have HS := n0_; clear n0_; clear c0; have c0 := (HS.out.src gs rfl).u8_at 0 d0 HD.out) | ((with_reducible refine gate_builtin (b := .append) (xs := #[.tmp 87, .tmp 89]) rfl ?_); at_builtin; refine app1 rfl (.tmp 87) (.tmp 89) rfl Tryz.underlying97 info5 _ HS.out rfl rfl (by (try simp only [List.length_append, List.length_cons, List.length_nil, List.length_take, List.length_drop]); omega) ?_; intro v_ w_ hs_; have n0_ := Aside0.mk hs_; clear HS hs_; have HS := n0_; clear n0_) | ((with_reducible refine gate_builtin (b := .append) (xs := #[.tmp 93, .tmp 94]) rfl ?_); at_builtin; refine app1 rfl (.tmp 93) (.tmp 94) rfl Tryz.underlying97 info5 _ HS.out rfl rfl (by (try simp only [List.length_append, List.length_cons, List.length_nil, List.length_take, List.length_drop]); omega) ?_; intro v_ w_ hs_; have n0_ := Aside0.mk hs_; clear HS hs_; have HS := n0_; clear n0_) | ((with_reducible refine gate_builtin (b := .append) (xs := #[.tmp 103, .tmp 107]) rfl ?_); at_builtin; refine appN rfl (.tmp 103) (.tmp 107) rfl Tryz.underlying97 info5 _ _ _ _ HS.out (C_part (HS.out.src gs rfl) 1 (nd - 1) (by have := HP.out; omega) (by have := HP.out; omega)) rfl rfl (by (try simp only [List.length_append, List.length_cons, List.length_nil, List.length_take, List.length_drop]); omega) (by omega) ?_; intro v_ w_ hs_; have n0_ := Aside0.mk hs_; clear HS hs_; have HS := n0_; clear n0_) | ((with_reducible refine gate_builtin (b := .append) (xs := #[.tmp 120, .tmp 122]) rfl ?_); at_builtin; refine app1 rfl (.tmp 120) (.tmp 122) rfl Tryz.underlying97 info5 _ HS.out rfl rfl (by (try simp only [List.length_append, List.length_cons, List.length_nil, List.length_take, List.length_drop]); omega) ?_; intro v_ w_ hs_; have n0_ := Aside0.mk hs_; clear HS hs_; have HS := n0_; clear n0_) | ((with_reducible refine gate_builtin (b := .append) (xs := #[.tmp 132, .tmp 134]) rfl ?_); at_builtin; refine app1 rfl (.tmp 132) (.tmp 134) rfl Tryz.underlying97 info5 _ HS.out rfl rfl (by (try simp only [List.length_append, List.length_cons, List.length_nil, List.length_take, List.length_drop]); omega) ?_; intro v_ w_ hs_; have n0_ := Aside0.mk hs_; clear HS hs_; have HS := n0_; clear n0_) | ((with_reducible refine gate_builtin (b := .append) (xs := #[.tmp 155, .tmp 159]) rfl ?_); at_builtin; refine appN rfl (.tmp 155) (.tmp 159) rfl Tryz.underlying97 info5 _ _ _ _ (HS.out.alloc _) (C_new2 _ _ _) rfl rfl (by (try simp only [List.length_append, List.length_cons, List.length_nil, List.length_take, List.length_drop]); omega) (by omega) ?_; intro v_ w_ hs_; have n0_ := Aside0.mk hs_; clear HS hs_; have HS := n0_; clear n0_))
  refine wp_loop_rounds 1 ?_
  rw [rounds_succ]
  go_wp2_with (first | ((with_reducible refine gate_builtin (b := .append) (xs := #[.tmp 79, .tmp 80]) rfl ?_); at_builtin; refine app1 rfl (.tmp 79) (.tmp 80) rfl Tryz.underlying97 info5 _ HS.out rfl rfl (by (try simp only [List.length_append, List.length_cons, List.length_nil, List.length_take, List.length_drop]); omega) ?_; intro v_ w_ hs_; have n0_ := Aside0.mk hs_; clear HS hs_; have HS := n0_; clear n0_; clear c0; have c0 := (HS.out.src gs rfl).u8_at 0 d0 HD.out) | ((with_reducible refine gate_builtin (b := .append) (xs := #[.tmp 87, .tmp 89]) rfl ?_); at_builtin; refine app1 rfl (.tmp 87) (.tmp 89) rfl Tryz.underlying97 info5 _ HS.out rfl rfl (by (try simp only [List.length_append, List.length_cons, List.length_nil, List.length_take, List.length_drop]); omega) ?_; intro v_ w_ hs_; have n0_ := Aside0.mk hs_; clear HS hs_; have HS := n0_; clear n0_) | ((with_reducible refine gate_builtin (b := .append) (xs := #[.tmp 93, .tmp 94]) rfl ?_); at_builtin; refine app1 rfl (.tmp 93) (.tmp 94) rfl Tryz.underlying97 info5 _ HS.out rfl rfl (by (try simp only [List.length_append, List.length_cons, List.length_nil, List.length_take, List.length_drop]); omega) ?_; intro v_ w_ hs_; have n0_ := Aside0.mk hs_; clear HS hs_; have HS := n0_; clear n0_) | ((with_reducible refine gate_builtin (b := .append) (xs := #[.tmp 103, .tmp 107]) rfl ?_); at_builtin; refine appN rfl (.tmp 103) (.tmp 107) rfl Tryz.underlying97 info5 _ _ _ _ HS.out (C_part (HS.out.src gs rfl) 1 (nd - 1) (by have := HP.out; omega) (by have := HP.out; omega)) rfl rfl (by (try simp only [List.length_append, List.length_cons, List.length_nil, List.length_take, List.length_drop]); omega) (by omega) ?_; intro v_ w_ hs_; have n0_ := Aside0.mk hs_; clear HS hs_; have HS := n0_; clear n0_) | ((with_reducible refine gate_builtin (b := .append) (xs := #[.tmp 120, .tmp 122]) rfl ?_); at_builtin; refine app1 rfl (.tmp 120) (.tmp 122) rfl Tryz.underlying97 info5 _ HS.out rfl rfl (by (try simp only [List.length_append, List.length_cons, List.length_nil, List.length_take, List.length_drop]); omega) ?_; intro v_ w_ hs_; have n0_ := Aside0.mk hs_; clear HS hs_; have HS := n0_; clear n0_) | ((with_reducible refine gate_builtin (b := .append) (xs := #[.tmp 132, .tmp 134]) rfl ?_); at_builtin; refine app1 rfl (.tmp 132) (.tmp 134) rfl Tryz.underlying97 info5 _ HS.out rfl rfl (by (try simp only [List.length_append, List.length_cons, List.length_nil, List.length_take, List.length_drop]); omega) ?_; intro v_ w_ hs_; have n0_ := Aside0.mk hs_; clear HS hs_; have HS := n0_; clear n0_) | ((with_reducible refine gate_builtin (b := .append) (xs := #[.tmp 155, .tmp 159]) rfl ?_); at_builtin; refine appN rfl (.tmp 155) (.tmp 159) rfl Tryz.underlying97 info5 _ _ _ _ (HS.out.alloc _) (C_new2 _ _ _) rfl rfl (by (try simp only [List.length_append, List.length_cons, List.length_nil, List.length_take, List.length_drop]); omega) (by omega) ?_; intro v_ w_ hs_; have n0_ := Aside0.mk hs_; clear HS hs_; have HS := n0_; clear n0_))
  go_ret
  refine ⟨_, rfl, ?_⟩
  have hs := HS.out
  first | exact hs | (simp only [List.nil_append, List.append_assoc, List.cons_append, List.append_nil] at hs ⊢; exact hs) | (simp at hs ⊢; exact hs)
set_option maxHeartbeats 4000000 in
set_option maxRecDepth 100000 in
theorem efg_12 (neg : Bool) (gs : Nat) (ds : List Int) (dp : Int) (nd : Nat) (hd : ds.length = 32) (hnd : nd ≤ 20) (hdp : -400 ≤ dp) (hdp2 : dp ≤ 400) (w0 w : World) (v : Value) (h : St w0 (some gs) ds w v [])
    (hneg : neg = true) (hn : 2 ≤ nd) (hx : 6 ≤ dp - 1) (hy : ¬ dp - 1 < 10) (hz : dp - 1 < 100) :
    Calls Tryz.prog 99 #[v, .bool neg, .slice (some ⟨gs, 0, none⟩) 32 32, .int .i64 dp, .int .i64 nd, .int .i64 nd, .int .u8 103, .bool true] w fun e w' => ∃ v', e = .returned v' ∧ St w0 (some gs) ds w' v' (eV neg ds dp nd) := by
  subst hneg
  obtain ⟨d0, hd0⟩ : ∃ d0, ds[0]? = some d0 := ⟨ds[0]'(by omega), List.getElem?_eq_getElem (by omega)⟩
  have HD := Aside0.mk hd0
  have HV : Aside0 (eV true ds dp nd = [45] ++ [d0] ++ (46 :: (ds.drop 1).take (nd - 1)) ++ [101] ++ (43 :: [(dp - 1) / 10 + 48, (dp - 1) % 10 + 48])) := by
    refine ⟨?_⟩
    have hh : ds.headD 0 = d0 := by cases ds <;> simp_all
    unfold eV sgn expV dig2
    rw [if_neg (show ¬ nd = 0 by omega), if_neg (show ¬ nd = 0 by omega), hh]
    rw [if_pos hn]
    rw [if_neg (show ¬ dp - 1 < 0 by omega)]
    rw [if_neg hy, if_pos hz]
    simp
  rw [HV.out]
  have HS := Aside0.mk h
  clear h hd0 HV
  have q1 : (nd : Int) - 1 > 0 := by omega
  have q2 : ¬ ((nd : Int) - 1 + 1 < (nd : Int)) := by omega
  have q3 : (1 : Int) < (nd : Int) := by omega
  have HN := Aside0.mk hn
  have HP := Aside0.mk hd
  have q4 : (nd : Int) ≤ 32 := by omega
  have q5 : ((nd : Int) == 0) = false := beq_eq_false_iff_ne.2 (by omega)
  have q6 : ((nd : Int) != 0) = true := bne_iff_ne.2 (by omega)
  clear hn hd
  have c0 := (HS.out.src gs rfl).u8_at 0 d0 HD.out
  go_enter Tryz.func99, Tryz.ntmps99
  go_wp2_with (first | ((with_reducible refine gate_builtin (b := .append) (xs := #[.tmp 79, .tmp 80]) rfl ?_); at_builtin; refine app1 rfl (.tmp 79) (.tmp 80) rfl Tryz.underlying97 info5 _ HS.out rfl rfl (by (try simp only [List.length_append, List.length_cons, List.length_nil, List.length_take, List.length_drop]); omega) ?_; intro v_ w_ hs_; have n0_ := Aside0.mk hs_; clear HS hs_; have HS := n0_; clear n0_; clear c0; have c0 := (HS.out.src gs rfl).u8_at 0 d0 HD.out) | ((with_reducible refine gate_builtin (b := .append) (xs := #[.tmp 87, .tmp 89]) rfl ?_); at_builtin; refine app1 rfl (.tmp 87) (.tmp 89) rfl Tryz.underlying97 info5 _ HS.out rfl rfl (by (try simp only [List.length_append, List.length_cons, List.length_nil, List.length_take, List.length_drop]); omega) ?_; intro v_ w_ hs_; have n0_ := Aside0.mk hs_; clear HS hs_; have HS := n0_; clear n0_) | ((with_reducible refine gate_builtin (b := .append) (xs := #[.tmp 93, .tmp 94]) rfl ?_); at_builtin; refine app1 rfl (.tmp 93) (.tmp 94) rfl Tryz.underlying97 info5 _ HS.out rfl rfl (by (try simp only [List.length_append, List.length_cons, List.length_nil, List.length_take, List.length_drop]); omega) ?_; intro v_ w_ hs_; have n0_ := Aside0.mk hs_; clear HS hs_; have HS := n0_; clear n0_) | ((with_reducible refine gate_builtin (b := .append) (xs := #[.tmp 103, .tmp 107]) rfl ?_); at_builtin; refine appN rfl (.tmp 103) (.tmp 107) rfl Tryz.underlying97 info5 _ _ _ _ HS.out (C_part (HS.out.src gs rfl) 1 (nd - 1) (by have := HP.out; omega) (by have := HP.out; omega)) rfl rfl (by (try simp only [List.length_append, List.length_cons, List.length_nil, List.length_take, List.length_drop]); omega) (by omega) ?_; intro v_ w_ hs_; have n0_ := Aside0.mk hs_; clear HS hs_; have HS := n0_; clear n0_) | ((with_reducible refine gate_builtin (b := .append) (xs := #[.tmp 120, .tmp 122]) rfl ?_); at_builtin; refine app1 rfl (.tmp 120) (.tmp 122) rfl Tryz.underlying97 info5 _ HS.out rfl rfl (by (try simp only [List.length_append, List.length_cons, List.length_nil, List.length_take, List.length_drop]); omega) ?_; intro v_ w_ hs_; have n0_ := Aside0.mk hs_; clear HS hs_; have HS := n0_; clear n0_) | ((with_reducible refine gate_builtin (b := .append) (xs := #[.tmp 132, .tmp 134]) rfl ?_); at_builtin; refine app1 rfl (.tmp 132) (.tmp 134) rfl Tryz.underlying97 info5 _ HS.out rfl rfl (by (try simp only [List.length_append, List.length_cons, List.length_nil, List.length_take, List.length_drop]); omega) ?_; intro v_ w_ hs_; have n0_ := Aside0.mk hs_; clear HS hs_; have HS := n0_; clear n0_) | ((with_reducible refine gate_builtin (b := .append) (xs := #[.tmp 164, .tmp 173]) rfl ?_); at_builtin; refine appN rfl (.tmp 164) (.tmp 173) rfl Tryz.underlying97 info5 _ _ _ _ (HS.out.alloc _) (C_new2 _ _ _) rfl rfl (by (try simp only [List.length_append, List.length_cons, List.length_nil, List.length_take, List.length_drop]); omega) (by omega) ?_; intro v_ w_ hs_; have n0_ := Aside0.mk hs_; clear HS hs_; have HS := n0_; clear n0_))
  refine wp_loop_rounds 1 ?_
  rw [rounds_succ]
  go_wp2_with (first | ((with_reducible refine gate_builtin (b := .append) (xs := #[.tmp 79, .tmp 80]) rfl ?_); at_builtin; refine app1 rfl (.tmp 79) (.tmp 80) rfl Tryz.underlying97 info5 _ HS.out rfl rfl (by (try simp only [List.length_append, List.length_cons, List.length_nil, List.length_take, List.length_drop]); omega) ?_; intro v_ w_ hs_; have n0_ := Aside0.mk hs_; clear HS hs_; have HS := n0_; clear n0_; clear c0; have c0 := (HS.out.src gs rfl).u8_at 0 d0 HD.out) | ((with_reducible refine gate_builtin (b := .append) (xs := #[.tmp 87, .tmp 89]) rfl ?_); at_builtin; refine app1 rfl (.tmp 87) (.tmp 89) rfl Tryz.underlying97 info5 _ HS.out rfl rfl (by (try simp only [List.length_append, List.length_cons, List.length_nil, List.length_take, List.length_drop]); omega) ?_; intro v_ w_ hs_; have n0_ := Aside0.mk hs_; clear HS hs_; have HS := n0_; clear n0_) | ((with_reducible refine gate_builtin (b := .append) (xs := #[.tmp 93, .tmp 94]) rfl ?_); at_builtin; refine app1 rfl (.tmp 93) (.tmp 94) rfl Tryz.underlying97 info5 _ HS.out rfl rfl (by (try simp only [List.length_append, List.length_cons, List.length_nil, List.length_take, List.length_drop]); omega) ?_; intro v_ w_ hs_; have n0_ := Aside0.mk hs_; clear HS hs_; have HS := n0_; clear n0_) | ((with_reducible refine gate_builtin (b := .append) (xs := #[.tmp 103, .tmp 107]) rfl ?_); at_builtin; refine appN rfl (.tmp 103) (.tmp 107) rfl Tryz.underlying97 info5 _ _ _ _ HS.out (C_part (HS.out.src gs rfl) 1 (nd - 1) (by have := HP.out; omega) (by have := HP.out; omega)) rfl rfl (by (try simp only [List.length_append, List.length_cons, List.length_nil, List.length_take, List.length_drop]); omega) (by omega) ?_; intro v_ w_ hs_; have n0_ := Aside0.mk hs_; clear HS hs_; have HS := n0_; clear n0_) | ((with_reducible refine gate_builtin (b := .append) (xs := #[.tmp 120, .tmp 122]) rfl ?_); at_builtin; refine app1 rfl (.tmp 120) (.tmp 122) rfl Tryz.underlying97 info5 _ HS.out rfl rfl (by (try simp only [List.length_append, List.length_cons, List.length_nil, List.length_take, List.length_drop]); omega) ?_; intro v_ w_ hs_; have n0_ := Aside0.mk hs_; clear HS hs_; have HS := n0_; clear n0_) | ((with_reducible refine gate_builtin (b := .append) (xs := #[.tmp 132, .tmp 134]) rfl ?_); at_builtin; refine app1 rfl (.tmp 132) (.tmp 134) rfl Tryz.underlying97 info5 _ HS.out rfl rfl (by (try simp only [List.length_append, List.length_cons, List.length_nil, List.length_take, List.length_drop]); omega) ?_; intro v_ w_ hs_; have n0_ := Aside0.mk hs_; clear HS hs_; have HS := n0_; clear n0_) | ((with_reducible refine gate_builtin (b := .append) (xs := #[.tmp 164, .tmp 173]) rfl ?_); at_builtin; refine appN rfl (.tmp 164) (.tmp 173) rfl Tryz.underlying97 info5 _ _ _ _ (HS.out.alloc _) (C_new2 _ _ _) rfl rfl (by (try simp only [List.length_append, List.length_cons, List.length_nil, List.length_take, List.length_drop]); omega) (by omega) ?_; intro v_ w_ hs_; have n0_ := Aside0.mk hs_; clear HS hs_; have HS := n0_; clear n0_))
  go_ret
  refine ⟨_, rfl, ?_⟩
  have hs := HS.out
  first | exact hs | (simp only [List.nil_append, List.append_assoc, List.cons_append, List.append_nil] at hs ⊢; exact hs) | (simp at hs ⊢; exact hs)
set_option maxHeartbeats 4000000 in
set_option maxRecDepth 100000 in
theorem efg_13 (neg : Bool) (gs : Nat) (ds : List Int) (dp : Int) (nd : Nat) (hd : ds.length = 32) (hnd : nd ≤ 20) (hdp : -400 ≤ dp) (hdp2 : dp ≤ 400) (w0 w : World) (v : Value) (h : St w0 (some gs) ds w v [])
    (hneg : neg = true) (hn : 2 ≤ nd) (hx : 6 ≤ dp - 1) (hy : ¬ dp - 1 < 100) :
    Calls Tryz.prog 99 #[v, .bool neg, .slice (some ⟨gs, 0, none⟩) 32 32, .int .i64 dp, .int .i64 nd, .int .i64 nd, .int .u8 103, .bool true] w fun e w' => ∃ v', e = .returned v' ∧ St w0 (some gs) ds w' v' (eV neg ds dp nd) := by
  subst hneg
  obtain ⟨d0, hd0⟩ : ∃ d0, ds[0]? = some d0 := ⟨ds[0]'(by omega), List.getElem?_eq_getElem (by omega)⟩
  have HD := Aside0.mk hd0
  have HV : Aside0 (eV true ds dp nd = [45] ++ [d0] ++ (46 :: (ds.drop 1).take (nd - 1)) ++ [101] ++ (43 :: [(dp - 1) / 100 + 48, (dp - 1) / 10 % 10 + 48, (dp - 1) % 10 + 48])) := by
    refine ⟨?_⟩
    have hh : ds.headD 0 = d0 := by cases ds <;> simp_all
    unfold eV sgn expV dig2
    rw [if_neg (show ¬ nd = 0 by omega), if_neg (show ¬ nd = 0 by omega), hh]
    rw [if_pos hn]
    rw [if_neg (show ¬ dp - 1 < 0 by omega)]
    rw [if_neg (show ¬ (dp - 1) < 10 by omega), if_neg hy]
    simp
  rw [HV.out]
  have HS := Aside0.mk h
  clear h hd0 HV
  have q1 : (nd : Int) - 1 > 0 := by omega
  have q2 : ¬ ((nd : Int) - 1 + 1 < (nd : Int)) := by omega
  have q3 : (1 : Int) < (nd : Int) := by omega
  have HN := Aside0.mk hn
  have HP := Aside0.mk hd
  have q4 : (nd : Int) ≤ 32 := by omega
  have q5 : ((nd : Int) == 0) = false := beq_eq_false_iff_ne.2 (by omega)
  have q6 : ((nd : Int) != 0) = true := bne_iff_ne.2 (by omega)
  clear hn hd
  have c0 := (HS.out.src gs rfl).u8_at 0 d0 HD.out
  go_enter Tryz.func99, Tryz.ntmps99
  go_wp2_with (first | ((with_reducible refine gate_builtin (b := .append) (xs := #[.tmp 79, .tmp 80]) rfl ?_); at_builtin; refine app1 rfl (.tmp 79) (.tmp 80) rfl Tryz.underlying97 info5 _ HS.out rfl rfl (by (try simp only [List.length_append, List.length_cons, List.length_nil, List.length_take, List.length_drop]); omega) ?_; intro v_ w_ hs_; have n0_ := Aside0.mk hs_; clear HS hs_; have HS := n0_; clear n0_; clear c0; have c0 := (HS.out.src gs rfl).u8_at 0 d0 HD.out) | ((with_reducible refine gate_builtin (b := .append) (xs := #[.tmp 87, .tmp 89]) rfl ?_); at_builtin; refine app1 rfl (.tmp 87) (.tmp 89) rfl Tryz.underlying97 info5 _ HS.out rfl rfl (by (try simp only [List.length_append, List.length_cons, List.length_nil, List.length_take, List.length_drop]); omega) ?_; intro v_ w_ hs_; have n0_ := Aside0.mk hs_; clear HS hs_; have HS := n0_; clear n0_) | ((with_reducible refine gate_builtin (b := .append) (xs := #[.tmp 93, .tmp 94]) rfl ?_); at_builtin; refine app1 rfl (.tmp 93) (.tmp 94) rfl Tryz.underlying97 info5 _ HS.out rfl rfl (by (try simp only [List.length_append, List.length_cons, List.length_nil, List.length_take, List.length_drop]); omega) ?_; intro v_ w_ hs_; have n0_ := Aside0.mk hs_; clear HS hs_; have HS := n0_; clear n0_) | ((with_reducible refine gate_builtin (b := .append) (xs := #[.tmp 103, .tmp 107]) rfl ?_); at_builtin; refine appN rfl (.tmp 103) (.tmp 107) rfl Tryz.underlying97 info5 _ _ _ _ HS.out (C_part (HS.out.src gs rfl) 1 (nd - 1) (by have := HP.out; omega) (by have := HP.out; omega)) rfl rfl (by (try simp only [List.length_append, List.length_cons, List.length_nil, List.length_take, List.length_drop]); omega) (by omega) ?_; intro v_ w_ hs_; have n0_ := Aside0.mk hs_; clear HS hs_; have HS := n0_; clear n0_) | ((with_reducible refine gate_builtin (b := .append) (xs := #[.tmp 120, .tmp 122]) rfl ?_); at_builtin; refine app1 rfl (.tmp 120) (.tmp 122) rfl Tryz.underlying97 info5 _ HS.out rfl rfl (by (try simp only [List.length_append, List.length_cons, List.length_nil, List.length_take, List.length_drop]); omega) ?_; intro v_ w_ hs_; have n0_ := Aside0.mk hs_; clear HS hs_; have HS := n0_; clear n0_) | ((with_reducible refine gate_builtin (b := .append) (xs := #[.tmp 132, .tmp 134]) rfl ?_); at_builtin; refine app1 rfl (.tmp 132) (.tmp 134) rfl Tryz.underlying97 info5 _ HS.out rfl rfl (by (try simp only [List.length_append, List.length_cons, List.length_nil, List.length_take, List.length_drop]); omega) ?_; intro v_ w_ hs_; have n0_ := Aside0.mk hs_; clear HS hs_; have HS := n0_; clear n0_) | ((with_reducible refine gate_builtin (b := .append) (xs := #[.tmp 136, .tmp 150]) rfl ?_); at_builtin; refine appN rfl (.tmp 136) (.tmp 150) rfl Tryz.underlying97 info5 _ _ _ _ (HS.out.alloc _) (C_new3 _ _ _ _) rfl rfl (by (try simp only [List.length_append, List.length_cons, List.length_nil, List.length_take, List.length_drop]); omega) (by omega) ?_; intro v_ w_ hs_; have n0_ := Aside0.mk hs_; clear HS hs_; have HS := n0_; clear n0_))
  refine wp_loop_rounds 1 ?_
  rw [rounds_succ]
  go_wp2_with (first | ((with_reducible refine gate_builtin (b := .append) (xs := #[.tmp 79, .tmp 80]) rfl ?_); at_builtin; refine app1 rfl (.tmp 79) (.tmp 80) rfl Tryz.underlying97 info5 _ HS.out rfl rfl (by (try simp only [List.length_append, List.length_cons, List.length_nil, List.length_take, List.length_drop]); omega) ?_; intro v_ w_ hs_; have n0_ := Aside0.mk hs_; clear HS hs_; have HS := n0_; clear n0_; clear c0; have c0 := (HS.out.src gs rfl).u8_at 0 d0 HD.out) | ((with_reducible refine gate_builtin (b := .append) (xs := #[.tmp 87, .tmp 89]) rfl ?_); at_builtin; refine app1 rfl (.tmp 87) (.tmp 89) rfl Tryz.underlying97 info5 _ HS.out rfl rfl (by (try simp only [List.length_append, List.length_cons, List.length_nil, List.length_take, List.length_drop]); omega) ?_; intro v_ w_ hs_; have n0_ := Aside0.mk hs_; clear HS hs_; have HS := n0_; clear n0_) | ((with_reducible refine gate_builtin (b := .append) (xs := #[.tmp 93, .tmp 94]) rfl ?_); at_builtin; refine app1 rfl (.tmp 93) (.tmp 94) rfl Tryz.underlying97 info5 _ HS.out rfl rfl (by (try simp only [List.length_append, List.length_cons, List.length_nil, List.length_take, List.length_drop]); omega) ?_; intro v_ w_ hs_; have n0_ := Aside0.mk hs_; clear HS hs_; have HS := n0_; clear n0_) | ((with_reducible refine gate_builtin (b := .append) (xs := #[.tmp 103, .tmp 107]) rfl ?_); at_builtin; refine appN rfl (.tmp 103) (.tmp 107) rfl Tryz.underlying97 info5 _ _ _ _ HS.out (C_part (HS.out.src gs rfl) 1 (nd - 1) (by have := HP.out; omega) (by have := HP.out; omega)) rfl rfl (by (try simp only [List.length_append, List.length_cons, List.length_nil, List.length_take, List.length_drop]); omega) (by omega) ?_; intro v_ w_ hs_; have n0_ := Aside0.mk hs_; clear HS hs_; have HS := n0_; clear n0_) | ((with_reducible refine gate_builtin (b := .append) (xs := #[.tmp 120, .tmp 122]) rfl ?_); at_builtin; refine app1 rfl (.tmp 120) (.tmp 122) rfl Tryz.underlying97 info5 _ HS.out rfl rfl (by (try simp only [List.length_append, List.length_cons, List.length_nil, List.length_take, List.length_drop]); omega) ?_; intro v_ w_ hs_; have n0_ := Aside0.mk hs_; clear HS hs_; have HS := n0_; clear n0_) | ((with_reducible refine gate_builtin (b := .append) (xs := #[.tmp 132, .tmp 134]) rfl ?_); at_builtin; refine app1 rfl (.tmp 132) (.tmp 134) rfl Tryz.underlying97 info5 _ HS.out rfl rfl (by (try simp only [List.length_append, List.length_cons, List.length_nil, List.length_take, List.length_drop]); omega) ?_; intro v_ w_ hs_; have n0_ := Aside0.mk hs_; clear HS hs_; have HS := n0_; clear n0_) | ((with_reducible refine gate_builtin (b := .append) (xs := #[.tmp 136, .tmp 150]) rfl ?_); at_builtin; refine appN rfl (.tmp 136) (.tmp 150) rfl Tryz.underlying97 info5 _ _ _ _ (HS.out.alloc _) (C_new3 _ _ _ _) rfl rfl (by (try simp only [List.length_append, List.length_cons, List.length_nil, List.length_take, List.length_drop]); omega) (by omega) ?_; intro v_ w_ hs_; have n0_ := Aside0.mk hs_; clear HS hs_; have HS := n0_; clear n0_))
  go_ret
  refine ⟨_, rfl, ?_⟩
  have hs := HS.out
  first | exact hs | (simp only [List.nil_append, List.append_assoc, List.cons_append, List.append_nil] at hs ⊢; exact hs) | (simp at hs ⊢; exact hs)
set_option maxHeartbeats 4000000 in
set_option maxRecDepth 100000 in
theorem efg_14 (neg : Bool) (gs : Nat) (ds : List Int) (dp : Int) (nd : Nat) (hd : ds.length = 32) (hnd : nd ≤ 20) (hdp : -400 ≤ dp) (hdp2 : dp ≤ 400) (w0 w : World) (v : Value) (h : St w0 (some gs) ds w v [])
    (hneg : neg = false) (hn : nd = 0) (hx : dp - 1 < -4) :
    Calls Tryz.prog 99 #[v, .bool neg, .slice (some ⟨gs, 0, none⟩) 32 32, .int .i64 dp, .int .i64 nd, .int .i64 nd, .int .u8 103, .bool true] w fun e w' => ∃ v', e = .returned v' ∧ St w0 (some gs) ds w' v' (eV neg ds dp nd) := by
  subst hneg
  obtain ⟨d0, hd0⟩ : ∃ d0, ds[0]? = some d0 := ⟨ds[0]'(by omega), List.getElem?_eq_getElem (by omega)⟩
  have HD := Aside0.mk hd0
  have HV : Aside0 (eV false ds dp nd = [] ++ [48] ++ [] ++ [101] ++ (43 :: dig2 0)) := by
    refine ⟨?_⟩
    have hh : ds.headD 0 = d0 := by cases ds <;> simp_all
    unfold eV sgn
    subst hn
    simp [expV, dig2]
  rw [HV.out]
  have HS := Aside0.mk h
  clear h hd0 HV
  obtain rfl : nd = 0 := hn
  go_enter Tryz.func99, Tryz.ntmps99
  go_wp2_with (first | ((with_reducible refine gate_builtin (b := .append) (xs := #[.tmp 87, .tmp 89]) rfl ?_); at_builtin; refine app1 rfl (.tmp 87) (.tmp 89) rfl Tryz.underlying97 info5 _ HS.out rfl rfl (by (try simp only [List.length_append, List.length_cons, List.length_nil, List.length_take, List.length_drop]); omega) ?_; intro v_ w_ hs_; have n0_ := Aside0.mk hs_; clear HS hs_; have HS := n0_; clear n0_) | ((with_reducible refine gate_builtin (b := .append) (xs := #[.tmp 120, .tmp 122]) rfl ?_); at_builtin; refine app1 rfl (.tmp 120) (.tmp 122) rfl Tryz.underlying97 info5 _ HS.out rfl rfl (by (try simp only [List.length_append, List.length_cons, List.length_nil, List.length_take, List.length_drop]); omega) ?_; intro v_ w_ hs_; have n0_ := Aside0.mk hs_; clear HS hs_; have HS := n0_; clear n0_) | ((with_reducible refine gate_builtin (b := .append) (xs := #[.tmp 132, .tmp 134]) rfl ?_); at_builtin; refine app1 rfl (.tmp 132) (.tmp 134) rfl Tryz.underlying97 info5 _ HS.out rfl rfl (by (try simp only [List.length_append, List.length_cons, List.length_nil, List.length_take, List.length_drop]); omega) ?_; intro v_ w_ hs_; have n0_ := Aside0.mk hs_; clear HS hs_; have HS := n0_; clear n0_) | ((with_reducible refine gate_builtin (b := .append) (xs := #[.tmp 155, .tmp 159]) rfl ?_); at_builtin; refine appN rfl (.tmp 155) (.tmp 159) rfl Tryz.underlying97 info5 _ _ _ _ (HS.out.alloc _) (C_new2 _ _ _) rfl rfl (by (try simp only [List.length_append, List.length_cons, List.length_nil, List.length_take, List.length_drop]); omega) (by omega) ?_; intro v_ w_ hs_; have n0_ := Aside0.mk hs_; clear HS hs_; have HS := n0_; clear n0_))
  go_ret
  refine ⟨_, rfl, ?_⟩
  have hs := HS.out
  first | exact hs | (simp only [List.nil_append, List.append_assoc, List.cons_append, List.append_nil] at hs ⊢; exact hs) | (simp at hs ⊢; exact hs)
set_option maxHeartbeats 4000000 in
set_option maxRecDepth 100000 in
theorem efg_15 (neg : Bool) (gs : Nat) (ds : List Int) (dp : Int) (nd : Nat) (hd : ds.length = 32) (hnd : nd ≤ 20) (hdp : -400 ≤ dp) (hdp2 : dp ≤ 400) (w0 w : World) (v : Value) (h : St w0 (some gs) ds w v [])
    (hneg : neg = false) (hn : nd = 0) (hx : 6 ≤ dp - 1) :
    Calls Tryz.prog 99 #[v, .bool neg, .slice (some ⟨gs, 0, none⟩) 32 32, .int .i64 dp, .int .i64 nd, .int .i64 nd, .int .u8 103, .bool true] w fun e w' => ∃ v', e = .returned v' ∧ St w0 (some gs) ds w' v' (eV neg ds dp nd) := by
  subst hneg
  obtain ⟨d0, hd0⟩ : ∃ d0, ds[0]? = some d0 := ⟨ds[0]'(by omega), List.getElem?_eq_getElem (by omega)⟩
  have HD := Aside0.mk hd0
  have HV : Aside0 (eV false ds dp nd = [] ++ [48] ++ [] ++ [101] ++ (43 :: dig2 0)) := by
    refine ⟨?_⟩
    have hh : ds.headD 0 = d0 := by cases ds <;> simp_all
    unfold eV sgn
    subst hn
    simp [expV, dig2]
  rw [HV.out]
  have HS := Aside0.mk h
  clear h hd0 HV
  obtain rfl : nd = 0 := hn
  go_enter Tryz.func99, Tryz.ntmps99
  go_wp2_with (first | ((with_reducible refine gate_builtin (b := .append) (xs := #[.tmp 87, .tmp 89]) rfl ?_); at_builtin; refine app1 rfl (.tmp 87) (.tmp 89) rfl Tryz.underlying97 info5 _ HS.out rfl rfl (by (try simp only [List.length_append, List.length_cons, List.length_nil, List.length_take, List.length_drop]); omega) ?_; intro v_ w_ hs_; have n0_ := Aside0.mk hs_; clear HS hs_; have HS := n0_; clear n0_) | ((with_reducible refine gate_builtin (b := .append) (xs := #[.tmp 120, .tmp 122]) rfl ?_); at_builtin; refine app1 rfl (.tmp 120) (.tmp 122) rfl Tryz.underlying97 info5 _ HS.out rfl rfl (by (try simp only [List.length_append, List.length_cons, List.length_nil, List.length_take, List.length_drop]); omega) ?_; intro v_ w_ hs_; have n0_ := Aside0.mk hs_; clear HS hs_; have HS := n0_; clear n0_) | ((with_reducible refine gate_builtin (b := .append) (xs := #[.tmp 132, .tmp 134]) rfl ?_); at_builtin; refine app1 rfl (.tmp 132) (.tmp 134) rfl Tryz.underlying97 info5 _ HS.out rfl rfl (by (try simp only [List.length_append, List.length_cons, List.length_nil, List.length_take, List.length_drop]); omega) ?_; intro v_ w_ hs_; have n0_ := Aside0.mk hs_; clear HS hs_; have HS := n0_; clear n0_) | ((with_reducible refine gate_builtin (b := .append) (xs := #[.tmp 155, .tmp 159]) rfl ?_); at_builtin; refine appN rfl (.tmp 155) (.tmp 159) rfl Tryz.underlying97 info5 _ _ _ _ (HS.out.alloc _) (C_new2 _ _ _) rfl rfl (by (try simp only [List.length_append, List.length_cons, List.length_nil, List.length_take, List.length_drop]); omega) (by omega) ?_; intro v_ w_ hs_; have n0_ := Aside0.mk hs_; clear HS hs_; have HS := n0_; clear n0_))
  go_ret
  refine ⟨_, rfl, ?_⟩
  have hs := HS.out
  first | exact hs | (simp only [List.nil_append, List.append_assoc, List.cons_append, List.append_nil] at hs ⊢; exact hs) | (simp at hs ⊢; exact hs)
set_option maxHeartbeats 4000000 in
set_option maxRecDepth 100000 in
theorem efg_16 (neg : Bool) (gs : Nat) (ds : List Int) (dp : Int) (nd : Nat) (hd : ds.length = 32) (hnd : nd ≤ 20) (hdp : -400 ≤ dp) (hdp2 : dp ≤ 400) (w0 w : World) (v : Value) (h : St w0 (some gs) ds w v [])
    (hneg : neg = false) (hn : nd = 1) (hx : dp - 1 < -4) (hz : -(dp - 1) < 10) :
    Calls Tryz.prog 99 #[v, .bool neg, .slice (some ⟨gs, 0, none⟩) 32 32, .int .i64 dp, .int .i64 nd, .int .i64 nd, .int .u8 103, .bool true] w fun e w' => ∃ v', e = .returned v' ∧ St w0 (some gs) ds w' v' (eV neg ds dp nd) := by
  subst hneg
  obtain ⟨d0, hd0⟩ : ∃ d0, ds[0]? = some d0 := ⟨ds[0]'(by omega), List.getElem?_eq_getElem (by omega)⟩
  have HD := Aside0.mk hd0
  obtain ⟨E, hE⟩ : ∃ E, -(dp - 1) = E := ⟨_, rfl⟩
  have hE0 : 0 ≤ E := by omega
  have hE1 : E ≤ 401 := by omega
  rw [hE] at hz
  have HV : Aside0 (eV false ds dp nd = [] ++ [d0] ++ [] ++ [101] ++ (45 :: [48, E + 48])) := by
    refine ⟨?_⟩
    have hh : ds.headD 0 = d0 := by cases ds <;> simp_all
    unfold eV sgn expV dig2
    rw [if_neg (show ¬ nd = 0 by omega), if_neg (show ¬ nd = 0 by omega), hh]
    rw [if_neg (show ¬ 2 ≤ nd by omega)]
    rw [if_pos (show dp - 1 < 0 by omega), hE]
    rw [if_pos hz]
    simp
  rw [HV.out]
  have HS := Aside0.mk h
  clear h hd0 HV
  obtain rfl : nd = 1 := hn
  have c0 := (HS.out.src gs rfl).u8_at 0 d0 HD.out
  go_enter Tryz.func99, Tryz.ntmps99
  go_wp2_with (first | ((with_reducible refine gate_builtin (b := .append) (xs := #[.tmp 87, .tmp 89]) rfl ?_); at_builtin; refine app1 rfl (.tmp 87) (.tmp 89) rfl Tryz.underlying97 info5 _ HS.out rfl rfl (by (try simp only [List.length_append, List.length_cons, List.length_nil, List.length_take, List.length_drop]); omega) ?_; intro v_ w_ hs_; have n0_ := Aside0.mk hs_; clear HS hs_; have HS := n0_; clear n0_) | ((with_reducible refine gate_builtin (b := .append) (xs := #[.tmp 120, .tmp 122]) rfl ?_); at_builtin; refine app1 rfl (.tmp 120) (.tmp 122) rfl Tryz.underlying97 info5 _ HS.out rfl rfl (by (try simp only [List.length_append, List.length_cons, List.length_nil, List.length_take, List.length_drop]); omega) ?_; intro v_ w_ hs_; have n0_ := Aside0.mk hs_; clear HS hs_; have HS := n0_; clear n0_) | ((with_reducible refine gate_builtin (b := .append) (xs := #[.tmp 132, .tmp 134]) rfl ?_); at_builtin; refine app1 rfl (.tmp 132) (.tmp 134) rfl Tryz.underlying97 info5 _ HS.out rfl rfl (by (try simp only [List.length_append, List.length_cons, List.length_nil, List.length_take, List.length_drop]); omega) ?_; intro v_ w_ hs_; have n0_ := Aside0.mk hs_; clear HS hs_; have HS := n0_; clear n0_) | ((with_reducible refine gate_builtin (b := .append) (xs := #[.tmp 155, .tmp 159]) rfl ?_); at_builtin; refine appN rfl (.tmp 155) (.tmp 159) rfl Tryz.underlying97 info5 _ _ _ _ (HS.out.alloc _) (C_new2 _ _ _) rfl rfl (by (try simp only [List.length_append, List.length_cons, List.length_nil, List.length_take, List.length_drop]); omega) (by omega) ?_; intro v_ w_ hs_; have n0_ := Aside0.mk hs_; clear HS hs_; have HS := n0_; clear n0_))
  go_ret
  refine ⟨_, rfl, ?_⟩
  have hs := HS.out
  first | exact hs | (simp only [List.nil_append, List.append_assoc, List.cons_append, List.append_nil] at hs ⊢; exact hs) | (simp at hs ⊢; exact hs)
set_option maxHeartbeats 4000000 in
set_option maxRecDepth 100000 in
theorem efg_17 (neg : Bool) (gs : Nat) (ds : List Int) (dp : Int) (nd : Nat) (hd : ds.length = 32) (hnd : nd ≤ 20) (hdp : -400 ≤ dp) (hdp2 : dp ≤ 400) (w0 w : World) (v : Value) (h : St w0 (some gs) ds w v [])
    (hneg : neg = false) (hn : nd = 1) (hx : dp - 1 < -4) (hy : ¬ -(dp - 1) < 10) (hz : -(dp - 1) < 100) :
    Calls Tryz.prog 99 #[v, .bool neg, .slice (some ⟨gs, 0, none⟩) 32 32, .int .i64 dp, .int .i64 nd, .int .i64 nd, .int .u8 103, .bool true] w fun e w' => ∃ v', e = .returned v' ∧ St w0 (some gs) ds w' v' (eV neg ds dp nd) := by
  subst hneg
  obtain ⟨d0, hd0⟩ : ∃ d0, ds[0]? = some d0 := ⟨ds[0]'(by omega), List.getElem?_eq_getElem (by omega)⟩
  have HD := Aside0.mk hd0
  obtain ⟨E, hE⟩ : ∃ E, -(dp - 1) = E := ⟨_, rfl⟩
  have hE0 : 0 ≤ E := by omega
  have hE1 : E ≤ 401 := by omega
  rw [hE] at hy hz
  have HV : Aside0 (eV false ds dp nd = [] ++ [d0] ++ [] ++ [101] ++ (45 :: [E / 10 + 48, E % 10 + 48])) := by
    refine ⟨?_⟩
    have hh : ds.headD 0 = d0 := by cases ds <;> simp_all
    unfold eV sgn expV dig2
    rw [if_neg (show ¬ nd = 0 by omega), if_neg (show ¬ nd = 0 by omega), hh]
    rw [if_neg (show ¬ 2 ≤ nd by omega)]
    rw [if_pos (show dp - 1 < 0 by omega), hE]
    rw [if_neg hy, if_pos hz]
    simp
  rw [HV.out]
  have HS := Aside0.mk h
  clear h hd0 HV
  obtain rfl : nd = 1 := hn
  have c0 := (HS.out.src gs rfl).u8_at 0 d0 HD.out
  go_enter Tryz.func99, Tryz.ntmps99
  go_wp2_with (first | ((with_reducible refine gate_builtin (b := .append) (xs := #[.tmp 87, .tmp 89]) rfl ?_); at_builtin; refine app1 rfl (.tmp 87) (.tmp 89) rfl Tryz.underlying97 info5 _ HS.out rfl rfl (by (try simp only [List.length_append, List.length_cons, List.length_nil, List.length_take, List.length_drop]); omega) ?_; intro v_ w_ hs_; have n0_ := Aside0.mk hs_; clear HS hs_; have HS := n0_; clear n0_) | ((with_reducible refine gate_builtin (b := .append) (xs := #[.tmp 120, .tmp 122]) rfl ?_); at_builtin; refine app1 rfl (.tmp 120) (.tmp 122) rfl Tryz.underlying97 info5 _ HS.out rfl rfl (by (try simp only [List.length_append, List.length_cons, List.length_nil, List.length_take, List.length_drop]); omega) ?_; intro v_ w_ hs_; have n0_ := Aside0.mk hs_; clear HS hs_; have HS := n0_; clear n0_) | ((with_reducible refine gate_builtin (b := .append) (xs := #[.tmp 132, .tmp 134]) rfl ?_); at_builtin; refine app1 rfl (.tmp 132) (.tmp 134) rfl Tryz.underlying97 info5 _ HS.out rfl rfl (by (try simp only [List.length_append, List.length_cons, List.length_nil, List.length_take, List.length_drop]); omega) ?_; intro v_ w_ hs_; have n0_ := Aside0.mk hs_; clear HS hs_; have HS := n0_; clear n0_) | ((with_reducible refine gate_builtin (b := .append) (xs := #[.tmp 164, .tmp 173]) rfl ?_); at_builtin; refine appN rfl (.tmp 164) (.tmp 173) rfl Tryz.underlying97 info5 _ _ _ _ (HS.out.alloc _) (C_new2 _ _ _) rfl rfl (by (try simp only [List.length_append, List.length_cons, List.length_nil, List.length_take, List.length_drop]); omega) (by omega) ?_; intro v_ w_ hs_; have n0_ := Aside0.mk hs_; clear HS hs_; have HS := n0_; clear n0_))
  go_ret
  refine ⟨_, rfl, ?_⟩
  have hs := HS.out
  first | exact hs | (simp only [List.nil_append, List.append_assoc, List.cons_append, List.append_nil] at hs ⊢; exact hs) | (simp at hs ⊢; exact hs)
set_option maxHeartbeats 4000000 in
set_option maxRecDepth 100000 in
theorem efg_18 (neg : Bool) (gs : Nat) (ds : List Int) (dp : Int) (nd : Nat) (hd : ds.length = 32) (hnd : nd ≤ 20) (hdp : -400 ≤ dp) (hdp2 : dp ≤ 400) (w0 w : World) (v : Value) (h : St w0 (some gs) ds w v [])
    (hneg : neg = false) (hn : nd = 1) (hx : dp - 1 < -4) (hy : ¬ -(dp - 1) < 100) :
    Calls Tryz.prog 99 #[v, .bool neg, .slice (some ⟨gs, 0, none⟩) 32 32, .int .i64 dp, .int .i64 nd, .int .i64 nd, .int .u8 103, .bool true] w fun e w' => ∃ v', e = .returned v' ∧ St w0 (some gs) ds w' v' (eV neg ds dp nd) := by
  subst hneg
  obtain ⟨d0, hd0⟩ : ∃ d0, ds[0]? = some d0 := ⟨ds[0]'(by omega), List.getElem?_eq_getElem (by omega)⟩
  have HD := Aside0.mk hd0
  obtain ⟨E, hE⟩ : ∃ E, -(dp - 1) = E := ⟨_, rfl⟩
  have hE0 : 0 ≤ E := by omega
  have hE1 : E ≤ 401 := by omega
  rw [hE] at hy
  have HV : Aside0 (eV false ds dp nd = [] ++ [d0] ++ [] ++ [101] ++ (45 :: [E / 100 + 48, E / 10 % 10 + 48, E % 10 + 48])) := by
    refine ⟨?_⟩
    have hh : ds.headD 0 = d0 := by cases ds <;> simp_all
    unfold eV sgn expV dig2
    rw [if_neg (show ¬ nd = 0 by omega), if_neg (show ¬ nd = 0 by omega), hh]
    rw [if_neg (show ¬ 2 ≤ nd by omega)]
    rw [if_pos (show dp - 1 < 0 by omega), hE]
    rw [if_neg (show ¬ E < 10 by omega), if_neg hy]
    simp
  rw [HV.out]
  have HS := Aside0.mk h
  clear h hd0 HV
  obtain rfl : nd = 1 := hn
  have c0 := (HS.out.src gs rfl).u8_at 0 d0 HD.out
  go_enter Tryz.func99, Tryz.ntmps99
  go_wp2_with (first | ((with_reducible refine gate_builtin (b := .append) (xs := #[.tmp 87, .tmp 89]) rfl ?_); at_builtin; refine app1 rfl (.tmp 87) (.tmp 89) rfl Tryz.underlying97 info5 _ HS.out rfl rfl (by (try simp only [List.length_append, List.length_cons, List.length_nil, List.length_take, List.length_drop]); omega) ?_; intro v_ w_ hs_; have n0_ := Aside0.mk hs_; clear HS hs_; have HS := n0_; clear n0_) | ((with_reducible refine gate_builtin (b := .append) (xs := #[.tmp 120, .tmp 122]) rfl ?_); at_builtin; refine app1 rfl (.tmp 120) (.tmp 122) rfl Tryz.underlying97 info5 _ HS.out rfl rfl (by (try simp only [List.length_append, List.length_cons, List.length_nil, List.length_take, List.length_drop]); omega) ?_; intro v_ w_ hs_; have n0_ := Aside0.mk hs_; clear HS hs_; have HS := n0_; clear n0_) | ((with_reducible refine gate_builtin (b := .append) (xs := #[.tmp 132, .tmp 134]) rfl ?_); at_builtin; refine app1 rfl (.tmp 132) (.tmp 134) rfl Tryz.underlying97 info5 _ HS.out rfl rfl (by (try simp only [List.length_append, List.length_cons, List.length_nil, List.length_take, List.length_drop]); omega) ?_; intro v_ w_ hs_; have n0_ := Aside0.mk hs_; clear HS hs_; have HS := n0_; clear n0_) | ((with_reducible refine gate_builtin (b := .append) (xs := #[.tmp 136, .tmp 150]) rfl ?_); at_builtin; refine appN rfl (.tmp 136) (.tmp 150) rfl Tryz.underlying97 info5 _ _ _ _ (HS.out.alloc _) (C_new3 _ _ _ _) rfl rfl (by (try simp only [List.length_append, List.length_cons, List.length_nil, List.length_take, List.length_drop]); omega) (by omega) ?_; intro v_ w_ hs_; have n0_ := Aside0.mk hs_; clear HS hs_; have HS := n0_; clear n0_))
  go_ret
  refine ⟨_, rfl, ?_⟩
  have hs := HS.out
  first | exact hs | (simp only [List.nil_append, List.append_assoc, List.cons_append, List.append_nil] at hs ⊢; exact hs) | (simp at hs ⊢; exact hs)
set_option maxHeartbeats 4000000 in
set_option maxRecDepth 100000 in
theorem efg_19 (neg : Bool) (gs : Nat) (ds : List Int) (dp : Int) (nd : Nat) (hd : ds.length = 32) (hnd : nd ≤ 20) (hdp : -400 ≤ dp) (hdp2 : dp ≤ 400) (w0 w : World) (v : Value) (h : St w0 (some gs) ds w v [])
    (hneg : neg = false) (hn : nd = 1) (hx : 6 ≤ dp - 1) (hz : dp - 1 < 10) :
    Calls Tryz.prog 99 #[v, .bool neg, .slice (some ⟨gs, 0, none⟩) 32 32, .int .i64 dp, .int .i64 nd, .int .i64 nd, .int .u8 103, .bool true] w fun e w' => ∃ v', e = .returned v' ∧ St w0 (some gs) ds w' v' (eV neg ds dp nd) := by
  subst hneg
  obtain ⟨d0, hd0⟩ : ∃ d0, ds[0]? = some d0 := ⟨ds[0]'(by omega), List.getElem?_eq_getElem (by omega)⟩
  have HD := Aside0.mk hd0
  have HV : Aside0 (eV false ds dp nd = [] ++ [d0] ++ [] ++ [101] ++ (43 :: [48, (dp - 1) + 48])) := by
    refine ⟨?_⟩
    have hh : ds.headD 0 = d0 := by cases ds <;> simp_all
    unfold eV sgn expV dig2
    rw [if_neg (show ¬ nd = 0 by omega), if_neg (show ¬ nd = 0 by omega), hh]
    rw [if_neg (show ¬ 2 ≤ nd by omega)]
    rw [if_neg (show ¬ dp - 1 < 0 by omega)]
    rw [if_pos hz]
    simp
  rw [HV.out]
  have HS := Aside0.mk h
  clear h hd0 HV
  obtain rfl : nd = 1 := hn
  have c0 := (HS.out.src gs rfl).u8_at 0 d0 HD.out
  go_enter Tryz.func99, Tryz.ntmps99
  go_wp2_with (first | ((with_reducible refine gate_builtin (b := .append) (xs := #[.tmp 87, .tmp 89]) rfl ?_); at_builtin; refine app1 rfl (.tmp 87) (.tmp 89) rfl Tryz.underlying97 info5 _ HS.out rfl rfl (by (try simp only [List.length_append, List.length_cons, List.length_nil, List.length_take, List.length_drop]); omega) ?_; intro v_ w_ hs_; have n0_ := Aside0.mk hs_; clear HS hs_; have HS := n0_; clear n0_) | ((with_reducible refine gate_builtin (b := .append) (xs := #[.tmp 120, .tmp 122]) rfl ?_); at_builtin; refine app1 rfl (.tmp 120) (.tmp 122) rfl Tryz.underlying97 info5 _ HS.out rfl rfl (by (try simp only [List.length_append, List.length_cons, List.length_nil, List.length_take, List.length_drop]); omega) ?_; intro v_ w_ hs_; have n0_ := Aside0.mk hs_; clear HS hs_; have HS := n0_; clear n0_) | ((with_reducible refine gate_builtin (b := .append) (xs := #[.tmp 132, .tmp 134]) rfl ?_); at_builtin; refine app1 rfl (.tmp 132) (.tmp 134) rfl Tryz.underlying97 info5 _ HS.out rfl rfl (by (try simp only [List.length_append, List.length_cons, List.length_nil, List.length_take, List.length_drop]); omega) ?_; intro v_ w_ hs_; have n0_ := Aside0.mk hs_; clear HS hs_; have HS := n0_; clear n0_) | ((with_reducible refine gate_builtin (b := .append) (xs := #[.tmp 155, .tmp 159]) rfl ?_); at_builtin; refine appN rfl (.tmp 155) (.tmp 159) rfl Tryz.underlying97 info5 _ _ _ _ (HS.out.alloc _) (C_new2 _ _ _) rfl rfl (by (try simp only [List.length_append, List.length_cons, List.length_nil, List.length_take, List.length_drop]); omega) (by omega) ?_; intro v_ w_ hs_; have n0_ := Aside0.mk hs_; clear HS hs_; have HS := n0_; clear n0_))
  go_ret
  refine ⟨_, rfl, ?_⟩
  have hs := HS.out
  first | exact hs | (simp only [List.nil_append, List.append_assoc, List.cons_append, List.append_nil] at hs ⊢; exact hs) | (simp at hs ⊢; exact hs)
set_option maxHeartbeats 4000000 in
set_option maxRecDepth 100000 in
theorem efg_20 (neg : Bool) (gs : Nat) (ds : List Int) (dp : Int) (nd : Nat) (hd : ds.length = 32) (hnd : nd ≤ 20) (hdp : -400 ≤ dp) (hdp2 : dp ≤ 400) (w0 w : World) (v : Value) (h : St w0 (some gs) ds w v [])
    (hneg : neg = false) (hn : nd = 1) (hx : 6 ≤ dp - 1) (hy : ¬ dp - 1 < 10) (hz : dp - 1 < 100) :
    Calls Tryz.prog 99 #[v, .bool neg, .slice (some ⟨gs, 0, none⟩) 32 32, .int .i64 dp, .int .i64 nd, .int .i64 nd, .int .u8 103, .bool true] w fun e w' => ∃ v', e = .returned v' ∧ St w0 (some gs) ds w' v' (eV neg ds dp nd) := by
  subst hneg
  obtain ⟨d0, hd0⟩ : ∃ d0, ds[0]? = some d0 := ⟨ds[0]'(by omega), List.getElem?_eq_getElem (by omega)⟩
  have HD := Aside0.mk hd0
  have HV : Aside0 (eV false ds dp nd = [] ++ [d0] ++ [] ++ [101] ++ (43 :: [(dp - 1) / 10 + 48, (dp - 1) % 10 + 48])) := by
    refine ⟨?_⟩
    have hh : ds.headD 0 = d0 := by cases ds <;> simp_all
    unfold eV sgn expV dig2
    rw [if_neg (show ¬ nd = 0 by omega), if_neg (show ¬ nd = 0 by omega), hh]
    rw [if_neg (show ¬ 2 ≤ nd by omega)]
    rw [if_neg (show ¬ dp - 1 < 0 by omega)]
    rw [if_neg hy, if_pos hz]
    simp
  rw [HV.out]
  have HS := Aside0.mk h
  clear h hd0 HV
  obtain rfl : nd = 1 := hn
  have c0 := (HS.out.src gs rfl).u8_at 0 d0 HD.out
  go_enter Tryz.func99, Tryz.ntmps99
  go_wp2_with (first | ((with_reducible refine gate_builtin (b := .append) (xs := #[.tmp 87, .tmp 89]) rfl ?_); at_builtin; refine app1 rfl (.tmp 87) (.tmp 89) rfl Tryz.underlying97 info5 _ HS.out rfl rfl (by (try simp only [List.length_append, List.length_cons, List.length_nil, List.length_take, List.length_drop]); omega) ?_; intro v_ w_ hs_; have n0_ := Aside0.mk hs_; clear HS hs_; have HS := n0_; clear n0_) | ((with_reducible refine gate_builtin (b := .append) (xs := #[.tmp 120, .tmp 122]) rfl ?_); at_builtin; refine app1 rfl (.tmp 120) (.tmp 122) rfl Tryz.underlying97 info5 _ HS.out rfl rfl (by (try simp only [List.length_append, List.length_cons, List.length_nil, List.length_take, List.length_drop]); omega) ?_; intro v_ w_ hs_; have n0_ := Aside0.mk hs_; clear HS hs_; have HS := n0_; clear n0_) | ((with_reducible refine gate_builtin (b := .append) (xs := #[.tmp 132, .tmp 134]) rfl ?_); at_builtin; refine app1 rfl (.tmp 132) (.tmp 134) rfl Tryz.underlying97 info5 _ HS.out rfl rfl (by (try simp only [List.length_append, List.length_cons, List.length_nil, List.length_take, List.length_drop]); omega) ?_; intro v_ w_ hs_; have n0_ := Aside0.mk hs_; clear HS hs_; have HS := n0_; clear n0_) | ((with_reducible refine gate_builtin (b := .append) (xs := #[.tmp 164, .tmp 173]) rfl ?_); at_builtin; refine appN rfl (.tmp 164) (.tmp 173) rfl Tryz.underlying97 info5 _ _ _ _ (HS.out.alloc _) (C_new2 _ _ _) rfl rfl (by (try simp only [List.length_append, List.length_cons, List.length_nil, List.length_take, List.length_drop]); omega) (by omega) ?_; intro v_ w_ hs_; have n0_ := Aside0.mk hs_; clear HS hs_; have HS := n0_; clear n0_))
  go_ret
  refine ⟨_, rfl, ?_⟩
  have hs := HS.out
  first | exact hs | (simp only [List.nil_append, List.append_assoc, List.cons_append, List.append_nil] at hs ⊢; exact hs) | (simp at hs ⊢; exact hs)
set_option maxHeartbeats 4000000 in
set_option maxRecDepth 100000 in
theorem efg_21 (neg : Bool) (gs : Nat) (ds : List Int) (dp : Int) (nd : Nat) (hd : ds.length = 32) (hnd : nd ≤ 20) (hdp : -400 ≤ dp) (hdp2 : dp ≤ 400) (w0 w : World) (v : Value) (h : St w0 (some gs) ds w v [])
    (hneg : neg = false) (hn : nd = 1) (hx : 6 ≤ dp - 1) (hy : ¬ dp - 1 < 100) :
    Calls Tryz.prog 99 #[v, .bool neg, .slice (some ⟨gs, 0, none⟩) 32 32, .int .i64 dp, .int .i64 nd, .int .i64 nd, .int .u8 103, .bool true] w fun e w' => ∃ v', e = .returned v' ∧ St w0 (some gs) ds w' v' (eV neg ds dp nd) := by
  subst hneg
  obtain ⟨d0, hd0⟩ : ∃ d0, ds[0]? = some d0 := ⟨ds[0]'(by omega), List.getElem?_eq_getElem (by omega)⟩
  have HD := Aside0.mk hd0
  have HV : Aside0 (eV false ds dp nd = [] ++ [d0] ++ [] ++ [101] ++ (43 :: [(dp - 1) / 100 + 48, (dp - 1) / 10 % 10 + 48, (dp - 1) % 10 + 48])) := by
    refine ⟨?_⟩
    have hh : ds.headD 0 = d0 := by cases ds <;> simp_all
    unfold eV sgn expV dig2
    rw [if_neg (show ¬ nd = 0 by omega), if_neg (show ¬ nd = 0 by omega), hh]
    rw [if_neg (show ¬ 2 ≤ nd by omega)]
    rw [if_neg (show ¬ dp - 1 < 0 by omega)]
    rw [if_neg (show ¬ (dp - 1) < 10 by omega), if_neg hy]
    simp
  rw [HV.out]
  have HS := Aside0.mk h
  clear h hd0 HV
  obtain rfl : nd = 1 := hn
  have c0 := (HS.out.src gs rfl).u8_at 0 d0 HD.out
  go_enter Tryz.func99, Tryz.ntmps99
  go_wp2_with (first | ((with_reducible refine gate_builtin (b := .append) (xs := #[.tmp 87, .tmp 89]) rfl ?_); at_builtin; refine app1 rfl (.tmp 87) (.tmp 89) rfl Tryz.underlying97 info5 _ HS.out rfl rfl (by (try simp only [List.length_append, List.length_cons, List.length_nil, List.length_take, List.length_drop]); omega) ?_; intro v_ w_ hs_; have n0_ := Aside0.mk hs_; clear HS hs_; have HS := n0_; clear n0_) | ((with_reducible refine gate_builtin (b := .append) (xs := #[.tmp 120, .tmp 122]) rfl ?_); at_builtin; refine app1 rfl (.tmp 120) (.tmp 122) rfl Tryz.underlying97 info5 _ HS.out rfl rfl (by (try simp only [List.length_append, List.length_cons, List.length_nil, List.length_take, List.length_drop]); omega) ?_; intro v_ w_ hs_; have n0_ := Aside0.mk hs_; clear HS hs_; have HS := n0_; clear n0_) | ((with_reducible refine gate_builtin (b := .append) (xs := #[.tmp 132, .tmp 134]) rfl ?_); at_builtin; refine app1 rfl (.tmp 132) (.tmp 134) rfl Tryz.underlying97 info5 _ HS.out rfl rfl (by (try simp only [List.length_append, List.length_cons, List.length_nil, List.length_take, List.length_drop]); omega) ?_; intro v_ w_ hs_; have n0_ := Aside0.mk hs_; clear HS hs_; have HS := n0_; clear n0_) | ((with_reducible refine gate_builtin (b := .append) (xs := #[.tmp 136, .tmp 150]) rfl ?_); at_builtin; refine appN rfl (.tmp 136) (.tmp 150) rfl Tryz.underlying97 info5 _ _ _ _ (HS.out.alloc _) (C_new3 _ _ _ _) rfl rfl (by (try simp only [List.length_append, List.length_cons, List.length_nil, List.length_take, List.length_drop]); omega) (by omega) ?_; intro v_ w_ hs_; have n0_ := Aside0.mk hs_; clear HS hs_; have HS := n0_; clear n0_))
  go_ret
  refine ⟨_, rfl, ?_⟩
  have hs := HS.out
  first | exact hs | (simp only [List.nil_append, List.append_assoc, List.cons_append, List.append_nil] at hs ⊢; exact hs) | (simp at hs ⊢; exact hs)
set_option maxHeartbeats 4000000 in
set_option maxRecDepth 100000 in
theorem efg_22 (neg : Bool) (gs : Nat) (ds : List Int) (dp : Int) (nd : Nat) (hd : ds.length = 32) (hnd : nd ≤ 20) (hdp : -400 ≤ dp) (hdp2 : dp ≤ 400) (w0 w : World) (v : Value) (h : St w0 (some gs) ds w v [])
    (hneg : neg = false) (hn : 2 ≤ nd) (hx : dp - 1 < -4) (hz : -(dp - 1) < 10) :
    Calls Tryz.prog 99 #[v, .bool neg, .slice (some ⟨gs, 0, none⟩) 32 32, .int .i64 dp, .int .i64 nd, .int .i64 nd, .int .u8 103, .bool true] w fun e w' => ∃ v', e = .returned v' ∧ St w0 (some gs) ds w' v' (eV neg ds dp nd) := by
  subst hneg
  obtain ⟨d0, hd0⟩ : ∃ d0, ds[0]? = some d0 := ⟨ds[0]'(by omega), List.getElem?_eq_getElem (by omega)⟩
  have HD := Aside0.mk hd0
  obtain ⟨E, hE⟩ : ∃ E, -(dp - 1) = E := ⟨_, rfl⟩
  have hE0 : 0 ≤ E := by omega
  have hE1 : E ≤ 401 := by omega
  rw [hE] at hz
  have HV : Aside0 (eV false ds dp nd = [] ++ [d0] ++ (46 :: (ds.drop 1).take (nd - 1)) ++ [101] ++ (45 :: [48, E + 48])) := by
    refine ⟨?_⟩
    have hh : ds.headD 0 = d0 := by cases ds <;> simp_all
    unfold eV sgn expV dig2
    rw [if_neg (show ¬ nd = 0 by omega), if_neg (show ¬ nd = 0 by omega), hh]
    rw [if_pos hn]
    rw [if_pos (show dp - 1 < 0 by omega), hE]
    rw [if_pos hz]
    simp
  rw [HV.out]
  have HS := Aside0.mk h
  clear h hd0 HV
  have q1 : (nd : Int) - 1 > 0 := by omega
  have q2 : ¬ ((nd : Int) - 1 + 1 < (nd : Int)) := by omega
  have q3 : (1 : Int) < (nd : Int) := by omega
  have HN := Aside0.mk hn
  have HP := Aside0.mk hd
  have q4 : (nd : Int) ≤ 32 := by omega
  have q5 : ((nd : Int) == 0) = false := beq_eq_false_iff_ne.2 (by omega)
  have q6 : ((nd : Int) != 0) = true := bne_iff_ne.2 (by omega)
  clear hn hd
  have c0 := (HS.out.src gs rfl).u8_at 0 d0 HD.out
  go_enter Tryz.func99, Tryz.ntmps99
  go_wp2_with (first | ((with_reducible refine gate_builtin (b := .append) (xs := #[.tmp 87, .tmp 89]) rfl ?_); at_builtin; refine app1 rfl (.tmp 87) (.tmp 89) rfl Tryz.underlying97 info5 _ HS.out rfl rfl (by (try simp only [List.length_append, List.length_cons, List.length_nil, List.length_take, List.length_drop]); omega) ?_; intro v_ w_ hs_; have n0_ := Aside0.mk hs_; clear HS hs_; have HS := n0_; clear n0_) | ((with_reducible refine gate_builtin (b := .append) (xs := #[.tmp 93, .tmp 94]) rfl ?_); at_builtin; refine app1 rfl (.tmp 93) (.tmp 94) rfl Tryz.underlying97 info5 _ HS.out rfl rfl (by (try simp only [List.length_append, List.length_cons, List.length_nil, List.length_take, List.length_drop]); omega) ?_; intro v_ w_ hs_; have n0_ := Aside0.mk hs_; clear HS hs_; have HS := n0_; clear n0_) | ((with_reducible refine gate_builtin (b := .append) (xs := #[.tmp 103, .tmp 107]) rfl ?_); at_builtin; refine appN rfl (.tmp 103) (.tmp 107) rfl Tryz.underlying97 info5 _ _ _ _ HS.out (C_part (HS.out.src gs rfl) 1 (nd - 1) (by have := HP.out; omega) (by have := HP.out; omega)) rfl rfl (by (try simp only [List.length_append, List.length_cons, List.length_nil, List.length_take, List.length_drop]); omega) (by omega) ?_; intro v_ w_ hs_; have n0_ := Aside0.mk hs_; clear HS hs_; have HS := n0_; clear n0_) | ((with_reducible refine gate_builtin (b := .append) (xs := #[.tmp 120, .tmp 122]) rfl ?_); at_builtin; refine app1 rfl (.tmp 120) (.tmp 122) rfl Tryz.underlying97 info5 _ HS.out rfl rfl (by (try simp only [List.length_append, List.length_cons, List.length_nil, List.length_take, List.length_drop]); omega) ?_; intro v_ w_ hs_; have n0_ := Aside0.mk hs_; clear HS hs_; have HS := n0_; clear n0_) | ((with_reducible refine gate_builtin (b := .append) (xs := #[.tmp 132, .tmp 134]) rfl ?_); at_builtin; refine app1 rfl (.tmp 132) (.tmp 134) rfl Tryz.underlying97 info5 _ HS.out rfl rfl (by (try simp only [List.length_append, List.length_cons, List.length_nil, List.length_take, List.length_drop]); omega) ?_; intro v_ w_ hs_; have n0_ := Aside0.mk hs_; clear HS hs_; have HS := n0_; clear n0_) | ((with_reducible refine gate_builtin (b := .append) (xs := #[.tmp 155, .tmp 159]) rfl ?_); at_builtin; refine appN rfl (.tmp 155) (.tmp 159) rfl Tryz.underlying97 info5 _ _ _ _ (HS.out.alloc _) (C_new2 _ _ _) rfl rfl (by (try simp only [List.length_append, List.length_cons, List.length_nil, List.length_take, List.length_drop]); omega) (by omega) ?_; intro v_ w_ hs_; have n0_ := Aside0.mk hs_; clear HS hs_; have HS := n0_; clear n0_))
  refine wp_loop_rounds 1 ?_
  rw [rounds_succ]
  go_wp2_with (first | ((with_reducible refine gate_builtin (b := .append) (xs := #[.tmp 87, .tmp 89]) rfl ?_); at_builtin; refine app1 rfl (.tmp 87) (.tmp 89) rfl Tryz.underlying97 info5 _ HS.out rfl rfl (by (try simp only [List.length_append, List.length_cons, List.length_nil, List.length_take, List.length_drop]); omega) ?_; intro v_ w_ hs_; have n0_ := Aside0.mk hs_; clear HS hs_; have HS := n0_; clear n0_) | ((with_reducible refine gate_builtin (b := .append) (xs := #[.tmp 93, .tmp 94]) rfl ?_); at_builtin; refine app1 rfl (.tmp 93) (.tmp 94) rfl Tryz.underlying97 info5 _ HS.out rfl rfl (by (try simp only [List.length_append, List.length_cons, List.length_nil, List.length_take, List.length_drop]); omega) ?_; intro v_ w_ hs_; have n0_ := Aside0.mk hs_; clear HS hs_; have HS := n0_; clear n0_) | ((with_reducible refine gate_builtin (b := .append) (xs := #[.tmp 103, .tmp 107]) rfl ?_); at_builtin; refine appN rfl (.tmp 103) (.tmp 107) rfl Tryz.underlying97 info5 _ _ _ _ HS.out (C_part (HS.out.src gs rfl) 1 (nd - 1) (by have := HP.out; omega) (by have := HP.out; omega)) rfl rfl (by (try simp only [List.length_append, List.length_cons, List.length_nil, List.length_take, List.length_drop]); omega) (by omega) ?_; intro v_ w_ hs_; have n0_ := Aside0.mk hs_; clear HS hs_; have HS := n0_; clear n0_) | ((with_reducible refine gate_builtin (b := .append) (xs := #[.tmp 120, .tmp 122]) rfl ?_); at_builtin; refine app1 rfl (.tmp 120) (.tmp 122) rfl Tryz.underlying97 info5 _ HS.out rfl rfl (by (try simp only [List.length_append, List.length_cons, List.length_nil, List.length_take, List.length_drop]); omega) ?_; intro v_ w_ hs_; have n0_ := Aside0.mk hs_; clear HS hs_; have HS := n0_; clear n0_) | ((with_reducible refine gate_builtin (b := .append) (xs := #[.tmp 132, .tmp 134]) rfl ?_); at_builtin; refine app1 rfl (.tmp 132) (.tmp 134) rfl Tryz.underlying97 info5 _ HS.out rfl rfl (by (try simp only [List.length_append, List.length_cons, List.length_nil, List.length_take, List.length_drop]); omega) ?_; intro v_ w_ hs_; have n0_ := Aside0.mk hs_; clear HS hs_; have HS := n0_; clear n0_) | ((with_reducible refine gate_builtin (b := .append) (xs := #[.tmp 155, .tmp 159]) rfl ?_); at_builtin; refine appN rfl (.tmp 155) (.tmp 159) rfl Tryz.underlying97 info5 _ _ _ _ (HS.out.alloc _) (C_new2 _ _ _) rfl rfl (by (try simp only [List.length_append, List.length_cons, List.length_nil, List.length_take, List.length_drop]); omega) (by omega) ?_; intro v_ w_ hs_; have n0_ := Aside0.mk hs_; clear HS hs_; have HS := n0_; clear n0_))
  go_ret
  refine ⟨_, rfl, ?_⟩
  have hs := HS.out
  first | exact hs | (simp only [List.nil_append, List.append_assoc, List.cons_append, List.append_nil] at hs ⊢; exact hs) | (simp at hs ⊢; exact hs)
set_option maxHeartbeats 4000000 in
set_option maxRecDepth 100000 in
theorem efg_23 (neg : Bool) (gs : Nat) (ds : List Int) (dp : Int) (nd : Nat) (hd : ds.length = 32) (hnd : nd ≤ 20) (hdp : -400 ≤ dp) (hdp2 : dp ≤ 400) (w0 w : World) (v : Value) (h : St w0 (some gs) ds w v [])
    (hneg : neg = false) (hn : 2 ≤ nd) (hx : dp - 1 < -4) (hy : ¬ -(dp - 1) < 10) (hz : -(dp - 1) < 100) :
    Calls Tryz.prog 99 #[v, .bool neg, .slice (some ⟨gs, 0, none⟩) 32 32, .int .i64 dp, .int .i64 nd, .int .i64 nd, .int .u8 103, .bool true] w fun e w' => ∃ v', e = .returned v' ∧ St w0 (some gs) ds w' v' (eV neg ds dp nd) := by
  subst hneg
  obtain ⟨d0, hd0⟩ : ∃ d0, ds[0]? = some d0 := ⟨ds[0]'(by omega), List.getElem?_eq_getElem (by omega)⟩
  have HD := Aside0.mk hd0
  obtain ⟨E, hE⟩ : ∃ E, -(dp - 1) = E := ⟨_, rfl⟩
  have hE0 : 0 ≤ E := by omega
  have hE1 : E ≤ 401 := by omega
  rw [hE] at hy hz
  have HV : Aside0 (eV false ds dp nd = [] ++ [d0] ++ (46 :: (ds.drop 1).take (nd - 1)) ++ [101] ++ (45 :: [E / 10 + 48, E % 10 + 48])) := by
    refine ⟨?_⟩
    have hh : ds.headD 0 = d0 := by cases ds <;> simp_all
    unfold eV sgn expV dig2
    rw [if_neg (show ¬ nd = 0 by omega), if_neg (show ¬ nd = 0 by omega), hh]
    rw [if_pos hn]
    rw [if_pos (show dp - 1 < 0 by omega), hE]
    rw [if_neg hy, if_pos hz]
    simp
  rw [HV.out]
  have HS := Aside0.mk h
  clear h hd0 HV
  have q1 : (nd : Int) - 1 > 0 := by omega
  have q2 : ¬ ((nd : Int) - 1 + 1 < (nd : Int)) := by omega
  have q3 : (1 : Int) < (nd : Int) := by omega
  have HN := Aside0.mk hn
  have HP := Aside0.mk hd
  have q4 : (nd : Int) ≤ 32 := by omega
  have q5 : ((nd : Int) == 0) = false := beq_eq_false_iff_ne.2 (by omega)
  have q6 : ((nd : Int) != 0) = true := bne_iff_ne.2 (by omega)
  clear hn hd
  have c0 := (HS.out.src gs rfl).u8_at 0 d0 HD.out
  go_enter Tryz.func99, Tryz.ntmps99
  go_wp2_with (first | ((with_reducible refine gate_builtin (b := .append) (xs := #[.tmp 87, .tmp 89]) rfl ?_); at_builtin; refine app1 rfl (.tmp 87) (.tmp 89) rfl Tryz.underlying97 info5 _ HS.out rfl rfl (by (try simp only [List.length_append, List.length_cons, List.length_nil, List.length_take, List.length_drop]); omega) ?_; intro v_ w_ hs_; have n0_ := Aside0.mk hs_; clear HS hs_; have HS := n0_; clear n0_) | ((with_reducible refine gate_builtin (b := .append) (xs := #[.tmp 93, .tmp 94]) rfl ?_); at_builtin; refine app1 rfl (.tmp 93) (.tmp 94) rfl Tryz.underlying97 info5 _ HS.out rfl rfl (by (try simp only [List.length_append, List.length_cons, List.length_nil, List.length_take, List.length_drop]); omega) ?_; intro v_ w_ hs_; have n0_ := Aside0.mk hs_; clear HS hs_; have HS := n0_; clear n0_) | ((with_reducible refine gate_builtin (b := .append) (xs := #[.tmp 103, .tmp 107]) rfl ?_); at_builtin; refine appN rfl (.tmp 103) (.tmp 107) rfl Tryz.underlying97 info5 _ _ _ _ HS.out (C_part (HS.out.src gs rfl) 1 (nd - 1) (by have := HP.out; omega) (by have := HP.out; omega)) rfl rfl (by (try simp only [List.length_append, List.length_cons, List.length_nil, List.length_take, List.length_drop]); omega) (by omega) ?_; intro v_ w_ hs_; have n0_ := Aside0.mk hs_; clear HS hs_; have HS := n0_; clear n0_) | ((with_reducible refine gate_builtin (b := .append) (xs := #[.tmp 120, .tmp 122]) rfl ?_); at_builtin; refine app1 rfl (.tmp 120) (.tmp 122) rfl Tryz.underlying97 info5 _ HS.out rfl rfl (by (try simp only [List.length_append, List.length_cons, List.length_nil, List.length_take, List.length_drop]); omega) ?_; intro v_ w_ hs_; have n0_ := Aside0.mk hs_; clear HS hs_; have HS := n0_; clear n0_) | ((with_reducible refine gate_builtin (b := .append) (xs := #[.tmp 132, .tmp 134]) rfl ?_); at_builtin; refine app1 rfl (.tmp 132) (.tmp 134) rfl Tryz.underlying97 info5 _ HS.out rfl rfl (by (try simp only [List.length_append, List.length_cons, List.length_nil, List.length_take, List.length_drop]); omega) ?_; intro v_ w_ hs_; have n0_ := Aside0.mk hs_; clear HS hs_; have HS := n0_; clear n0_) | ((with_reducible refine gate_builtin (b := .append) (xs := #[.tmp 164, .tmp 173]) rfl ?_); at_builtin; refine appN rfl (.tmp 164) (.tmp 173) rfl Tryz.underlying97 info5 _ _ _ _ (HS.out.alloc _) (C_new2 _ _ _) rfl rfl (by (try simp only [List.length_append, List.length_cons, List.length_nil, List.length_take, List.length_drop]); omega) (by omega) ?_; intro v_ w_ hs_; have n0_ := Aside0.mk hs_; clear HS hs_; have HS := n0_; clear n0_))
  refine wp_loop_rounds 1 ?_
  rw [rounds_succ]
  go_wp2_with (first | ((with_reducible refine gate_builtin (b := .append) (xs := #[.tmp 87, .tmp 89]) rfl ?_); at_builtin; refine app1 rfl (.tmp 87) (.tmp 89) rfl Tryz.underlying97 info5 _ HS.out rfl rfl (by (try simp only [List.length_append, List.length_cons, List.length_nil, List.length_take, List.length_drop]); omega) ?_; intro v_ w_ hs_; have n0_ := Aside0.mk hs_; clear HS hs_; have HS := n0_; clear n0_) | ((with_reducible refine gate_builtin (b := .append) (xs := #[.tmp 93, .tmp 94]) rfl ?_); at_builtin; refine app1 rfl (.tmp 93) (.tmp 94) rfl Tryz.underlying97 info5 _ HS.out rfl rfl (by (try simp only [List.length_append, List.length_cons, List.length_nil, List.length_take, List.length_drop]); omega) ?_; intro v_ w_ hs_; have n0_ := Aside0.mk hs_; clear HS hs_; have HS := n0_; clear n0_) | ((with_reducible refine gate_builtin (b := .append) (xs := #[.tmp 103, .tmp 107]) rfl ?_); at_builtin; refine appN rfl (.tmp 103) (.tmp 107) rfl Tryz.underlying97 info5 _ _ _ _ HS.out (C_part (HS.out.src gs rfl) 1 (nd - 1) (by have := HP.out; omega) (by have := HP.out; omega)) rfl rfl (by (try simp only [List.length_append, List.length_cons, List.length_nil, List.length_take, List.length_drop]); omega) (by omega) ?_; intro v_ w_ hs_; have n0_ := Aside0.mk hs_; clear HS hs_; have HS := n0_; clear n0_) | ((with_reducible refine gate_builtin (b := .append) (xs := #[.tmp 120, .tmp 122]) rfl ?_); at_builtin; refine app1 rfl (.tmp 120) (.tmp 122) rfl Tryz.underlying97 info5 _ HS.out rfl rfl (by (try simp only [List.length_append, List.length_cons, List.length_nil, List.length_take, List.length_drop]); omega) ?_; intro v_ w_ hs_; have n0_ := Aside0.mk hs_; clear HS hs_; have HS := n0_; clear n0_) | ((with_reducible refine gate_builtin (b := .append) (xs := #[.tmp 132, .tmp 134]) rfl ?_); at_builtin; refine app1 rfl (.tmp 132) (.tmp 134) rfl Tryz.underlying97 info5 _ HS.out rfl rfl (by (try simp only [List.length_append, List.length_cons, List.length_nil, List.length_take, List.length_drop]); omega) ?_; intro v_ w_ hs_; have n0_ := Aside0.mk hs_; clear HS hs_; have HS := n0_; clear n0_) | ((with_reducible refine gate_builtin (b := .append) (xs := #[.tmp 164, .tmp 173]) rfl ?_); at_builtin; refine appN rfl (.tmp 164) (.tmp 173) rfl Tryz.underlying97 info5 _ _ _ _ (HS.out.alloc _) (C_new2 _ _ _) rfl rfl (by (try simp only [List.length_append, List.length_cons, List.length_nil, List.length_take, List.length_drop]); omega) (by omega) ?_; intro v_ w_ hs_; have n0_ := Aside0.mk hs_; clear HS hs_; have HS := n0_; clear n0_))
  go_ret
  refine ⟨_, rfl, ?_⟩
  have hs := HS.out
  first | exact hs | (simp only [List.nil_append, List.append_assoc, List.cons_append, List.append_nil] at hs ⊢; exact hs) | (simp at hs ⊢; exact hs)
set_option maxHeartbeats 4000000 in
set_option maxRecDepth 100000 in
theorem efg_24 (neg : Bool) (gs : Nat) (ds : List Int) (dp : Int) (nd : Nat) (hd : ds.length = 32) (hnd : nd ≤ 20) (hdp : -400 ≤ dp) (hdp2 : dp ≤ 400) (w0 w : World) (v : Value) (h : St w0 (some gs) ds w v [])
    (hneg : neg = false) (hn : 2 ≤ nd) (hx : dp - 1 < -4) (hy : ¬ -(dp - 1) < 100) :
    Calls Tryz.prog 99 #[v, .bool neg, .slice (some ⟨gs, 0, none⟩) 32 32, .int .i64 dp, .int .i64 nd, .int .i64 nd, .int .u8 103, .bool true] w fun e w' => ∃ v', e = .returned v' ∧ St w0 (some gs) ds w' v' (eV neg ds dp nd) := by
  subst hneg
  obtain ⟨d0, hd0⟩ : ∃ d0, ds[0]? = some d0 := ⟨ds[0]'(by omega), List.getElem?_eq_getElem (by omega)⟩
  have HD := Aside0.mk hd0
  obtain ⟨E, hE⟩ : ∃ E, -(dp - 1) = E := ⟨_, rfl⟩
  have hE0 : 0 ≤ E := by omega
  have hE1 : E ≤ 401 := by omega
  rw [hE] at hy
  have HV : Aside0 (eV false ds dp nd = [] ++ [d0] ++ (46 :: (ds.drop 1).take (nd - 1)) ++ [101] ++ (45 :: [E / 100 + 48, E / 10 % 10 + 48, E % 10 + 48])) := by
    refine ⟨?_⟩
    have hh : ds.headD 0 = d0 := by cases ds <;> simp_all
    unfold eV sgn expV dig2
    rw [if_neg (show ¬ nd = 0 by omega), if_neg (show ¬ nd = 0 by omega), hh]
    rw [if_pos hn]
    rw [if_pos (show dp - 1 < 0 by omega), hE]
    rw [if_neg (show ¬ E < 10 by omega), if_neg hy]
    simp
  rw [HV.out]
  have HS := Aside0.mk h
  clear h hd0 HV
  have q1 : (nd : Int) - 1 > 0 := by omega
  have q2 : ¬ ((nd : Int) - 1 + 1 < (nd : Int)) := by omega
  have q3 : (1 : Int) < (nd : Int) := by omega
  have HN := Aside0.mk hn
  have HP := Aside0.mk hd
  have q4 : (nd : Int) ≤ 32 := by omega
  have q5 : ((nd : Int) == 0) = false := beq_eq_false_iff_ne.2 (by omega)
  have q6 : ((nd : Int) != 0) = true := bne_iff_ne.2 (by omega)
  clear hn hd
  have c0 := (HS.out.src gs rfl).u8_at 0 d0 HD.out
  go_enter Tryz.func99, Tryz.ntmps99
  go_wp2_with (first | ((with_reducible refine gate_builtin (b := .append) (xs := #[.tmp 87, .tmp 89]) rfl ?_); at_builtin; refine app1 rfl (.tmp 87) (.tmp 89) rfl Tryz.underlying97 info5 _ HS.out rfl rfl (by (try simp only [List.length_append, List.length_cons, List.length_nil, List.length_take, List.length_drop]); omega) ?_; intro v_ w_ hs_; have n0_ := Aside0.mk hs_; clear HS hs_; have HS := n0_; clear n0_) | ((with_reducible refine gate_builtin (b := .append) (xs := #[.tmp 93, .tmp 94]) rfl ?_); at_builtin; refine app1 rfl (.tmp 93) (.tmp 94) rfl Tryz.underlying97 info5 _ HS.out rfl rfl (by (try simp only [List.length_append, List.length_cons, List.length_nil, List.length_take, List.length_drop]); omega) ?_; intro v_ w_ hs_; have n0_ := Aside0.mk hs_; clear HS hs_; have HS := n0_; clear n0_) | ((with_reducible refine gate_builtin (b := .append) (xs := #[.tmp 103, .tmp 107]) rfl ?_); at_builtin; refine appN rfl (.tmp 103) (.tmp 107) rfl Tryz.underlying97 info5 _ _ _ _ HS.out (C_part (HS.out.src gs rfl) 1 (nd - 1) (by have := HP.out; omega) (by have := HP.out; omega)) rfl rfl (by (try simp only [List.length_append, List.length_cons, List.length_nil, List.length_take, List.length_drop]); omega) (by omega) ?_; intro v_ w_ hs_; have n0_ := Aside0.mk hs_; clear HS hs_; have HS := n0_; clear n0_) | ((with_reducible refine gate_builtin (b := .append) (xs := #[.tmp 120, .tmp 122]) rfl ?_); at_builtin; refine app1 rfl (.tmp 120) (.tmp 122) rfl Tryz.underlying97 info5 _ HS.out rfl rfl (by (try simp only [List.length_append, List.length_cons, List.length_nil, List.length_take, List.length_drop]); omega) ?_; intro v_ w_ hs_; have n0_ := Aside0.mk hs_; clear HS hs_; have HS := n0_; clear n0_) | ((with_reducible refine gate_builtin (b := .append) (xs := #[.tmp 132, .tmp 134]) rfl ?_); at_builtin; refine app1 rfl (.tmp 132) (.tmp 134) rfl Tryz.underlying97 info5 _ HS.out rfl rfl (by (try simp only [List.length_append, List.length_cons, List.length_nil, List.length_take, List.length_drop]); omega) ?_; intro v_ w_ hs_; have n0_ := Aside0.mk hs_; clear HS hs_; have HS := n0_; clear n0_) | ((with_reducible refine gate_builtin (b := .append) (xs := #[.tmp 136, .tmp 150]) rfl ?_); at_builtin; refine appN rfl (.tmp 136) (.tmp 150) rfl Tryz.underlying97 info5 _ _ _ _ (HS.out.alloc _) (C_new3 _ _ _ _) rfl rfl (by (try simp only [List.length_append, List.length_cons, List.length_nil, List.length_take, List.length_drop]); omega) (by omega) ?_; intro v_ w_ hs_; have n0_ := Aside0.mk hs_; clear HS hs_; have HS := n0_; clear n0_))
  refine wp_loop_rounds 1 ?_
  rw [rounds_succ]
  go_wp2_with (first | ((with_reducible refine gate_builtin (b := .append) (xs := #[.tmp 87, .tmp 89]) rfl ?_); at_builtin; refine app1 rfl (.tmp 87) (.tmp 89) rfl Tryz.underlying97 info5 _ HS.out rfl rfl (by (try simp only [List.length_append, List.length_cons, List.length_nil, List.length_take, List.length_drop]); omega) ?_; intro v_ w_ hs_; have n0_ := Aside0.mk hs_; clear HS hs_; have HS := n0_; clear n0_) | ((with_reducible refine gate_builtin (b := .append) (xs := #[.tmp 93, .tmp 94]) rfl ?_); at_builtin; refine app1 rfl (.tmp 93) (.tmp 94) rfl Tryz.underlying97 info5 _ HS.out rfl rfl (by (try simp only [List.length_append, List.length_cons, List.length_nil, List.length_take, List.length_drop]); omega) ?_; intro v_ w_ hs_; have n0_ := Aside0.mk hs_; clear HS hs_; have HS := n0_; clear n0_) | ((with_reducible refine gate_builtin (b := .append) (xs := #[.tmp 103, .tmp 107]) rfl ?_); at_builtin; refine appN rfl (.tmp 103) (.tmp 107) rfl Tryz.underlying97 info5 _ _ _ _ HS.out (C_part (HS.out.src gs rfl) 1 (nd - 1) (by have := HP.out; omega) (by have := HP.out; omega)) rfl rfl (by (try simp only [List.length_append, List.length_cons, List.length_nil, List.length_take, List.length_drop]); omega) (by omega) ?_; intro v_ w_ hs_; have n0_ := Aside0.mk hs_; clear HS hs_; have HS := n0_; clear n0_) | ((with_reducible refine gate_builtin (b := .append) (xs := #[.tmp 120, .tmp 122]) rfl ?_); at_builtin; refine app1 rfl (.tmp 120) (.tmp 122) rfl Tryz.underlying97 info5 _ HS.out rfl rfl (by (try simp only [List.length_append, List.length_cons, List.length_nil, List.length_take, List.length_drop]); omega) ?_; intro v_ w_ hs_; have n0_ := Aside0.mk hs_; clear HS hs_; have HS := n0_; clear n0_) | ((with_reducible refine gate_builtin (b := .append) (xs := #[.tmp 132, .tmp 134]) rfl ?_); at_builtin; refine app1 rfl (.tmp 132) (.tmp 134) rfl Tryz.underlying97 info5 _ HS.out rfl rfl (by (try simp only [List.length_append, List.length_cons, List.length_nil, List.length_take, List.length_drop]); omega) ?_; intro v_ w_ hs_; have n0_ := Aside0.mk hs_; clear HS hs_; have HS := n0_; clear n0_) | ((with_reducible refine gate_builtin (b := .append) (xs := #[.tmp 136, .tmp 150]) rfl ?_); at_builtin; refine appN rfl (.tmp 136) (.tmp 150) rfl Tryz.underlying97 info5 _ _ _ _ (HS.out.alloc _) (C_new3 _ _ _ _) rfl rfl (by (try simp only [List.length_append, List.length_cons, List.length_nil, List.length_take, List.length_drop]); omega) (by omega) ?_; intro v_ w_ hs_; have n0_ := Aside0.mk hs_; clear HS hs_; have HS := n0_; clear n0_))
  go_ret
  refine ⟨_, rfl, ?_⟩
  have hs := HS.out
  first | exact hs | (simp only [List.nil_append, List.append_assoc, List.cons_append, List.append_nil] at hs ⊢; exact hs) | (simp at hs ⊢; exact hs)
set_option maxHeartbeats 4000000 in
set_option maxRecDepth 100000 in
theorem efg_25 (neg : Bool) (gs : Nat) (ds : List Int) (dp : Int) (nd : Nat) (hd : ds.length = 32) (hnd : nd ≤ 20) (hdp : -400 ≤ dp) (hdp2 : dp ≤ 400) (w0 w : World) (v : Value) (h : St w0 (some gs) ds w v [])
    (hneg : neg = false) (hn : 2 ≤ nd) (hx : 6 ≤ dp - 1) (hz : dp - 1 < 10) :
    Calls Tryz.prog 99 #[v, .bool neg, .slice (some ⟨gs, 0, none⟩) 32 32, .int .i64 dp, .int .i64 nd, .int .i64 nd, .int .u8 103, .bool true] w fun e w' => ∃ v', e = .returned v' ∧ St w0 (some gs) ds w' v' (eV neg ds dp nd) := by
  subst hneg
  obtain ⟨d0, hd0⟩ : ∃ d0, ds[0]? = some d0 := ⟨ds[0]'(by omega), List.getElem?_eq_getElem (by omega)⟩
  have HD := Aside0.mk hd0
  have HV : Aside0 (eV false ds dp nd = [] ++ [d0] ++ (46 :: (ds.drop 1).take (nd - 1)) ++ [101] ++ (43 :: [48, (dp - 1) + 48])) := by
    refine ⟨?_⟩
    have hh : ds.headD 0 = d0 := by cases ds <;> simp_all
    unfold eV sgn expV dig2
    rw [if_neg (show ¬ nd = 0 by omega), if_neg (show ¬ nd = 0 by omega), hh]
    rw [if_pos hn]
    rw [if_neg (show ¬ dp - 1 < 0 by omega)]
    rw [if_pos hz]
    simp
  rw [HV.out]
  have HS := Aside0.mk h
  clear h hd0 HV
  have q1 : (nd : Int) - 1 > 0 := by omega
  have q2 : ¬ ((nd : Int) - 1 + 1 < (nd : Int)) := by omega
  have q3 : (1 : Int) < (nd : Int) := by omega
  have HN := Aside0.mk hn
  have HP := Aside0.mk hd
  have q4 : (nd : Int) ≤ 32 := by omega
  have q5 : ((nd : Int) == 0) = false := beq_eq_false_iff_ne.2 (by omega)
  have q6 : ((nd : Int) != 0) = true := bne_iff_ne.2 (by omega)
  clear hn hd
  have c0 := (HS.out.src gs rfl).u8_at 0 d0 HD.out
  go_enter Tryz.func99, Tryz.ntmps99
  go_wp2_with (first | ((with_reducible refine gate_builtin (b := .append) (xs := #[.tmp 87, .tmp 89]) rfl ?_); at_builtin; refine app1 rfl (.tmp 87) (.tmp 89) rfl Tryz.underlying97 info5 _ HS.out rfl rfl (by (try simp only [List.length_append, List.length_cons, List.length_nil, List.length_take, List.length_drop]); omega) ?_; intro v_ w_ hs_; have n0_ := Aside0.mk hs_; clear HS hs_; have HS := n0_; clear n0_) | ((with_reducible refine gate_builtin (b := .append) (xs := #[.tmp 93, .tmp 94]) rfl ?_); at_builtin; refine app1 rfl (.tmp 93) (.tmp 94) rfl Tryz.underlying97 info5 _ HS.out rfl rfl (by (try simp only [List.length_append, List.length_cons, List.length_nil, List.length_take, List.length_drop]); omega) ?_; intro v_ w_ hs_; have n0_ := Aside0.mk hs_; clear HS hs_; have HS := n0_; clear n0_) | ((with_reducible refine gate_builtin (b := .append) (xs := #[.tmp 103, .tmp 107]) rfl ?_); at_builtin; refine appN rfl (.tmp 103) (.tmp 107) rfl Tryz.underlying97 info5 _ _ _ _ HS.out (C_part (HS.out.src gs rfl) 1 (nd - 1) (by have := HP.out; omega) (by have := HP.out; omega)) rfl rfl (by (try simp only [List.length_append, List.length_cons, List.length_nil, List.length_take, List.length_drop]); omega) (by omega) ?_; intro v_ w_ hs_; have n0_ := Aside0.mk hs_; clear HS hs_; have HS := n0_; clear n0_) | ((with_reducible refine gate_builtin (b := .append) (xs := #[.tmp 120, .tmp 122]) rfl ?_); at_builtin; refine app1 rfl (.tmp 120) (.tmp 122) rfl Tryz.underlying97 info5 _ HS.out rfl rfl (by (try simp only [List.length_append, List.length_cons, List.length_nil, List.length_take, List.length_drop]); omega) ?_; intro v_ w_ hs_; have n0_ := Aside0.mk hs_; clear HS hs_; have HS := n0_; clear n0_) | ((with_reducible refine gate_builtin (b := .append) (xs := #[.tmp 132, .tmp 134]) rfl ?_); at_builtin; refine app1 rfl (.tmp 132) (.tmp 134) rfl Tryz.underlying97 info5 _ HS.out rfl rfl (by (try simp only [List.length_append, List.length_cons, List.length_nil, List.length_take, List.length_drop]); omega) ?_; intro v_ w_ hs_; have n0_ := Aside0.mk hs_; clear HS hs_; have HS := n0_; clear n0_) | ((with_reducible refine gate_builtin (b := .append) (xs := #[.tmp 155, .tmp 159]) rfl ?_); at_builtin; refine appN rfl (.tmp 155) (.tmp 159) rfl Tryz.underlying97 info5 _ _ _ _ (HS.out.alloc _) (C_new2 _ _ _) rfl rfl (by (try simp only [List.length_append, List.length_cons, List.length_nil, List.length_take, List.length_drop]); omega) (by omega) ?_; intro v_ w_ hs_; have n0_ := Aside0.mk hs_; clear HS hs_; have HS := n0_; clear n0_))
  refine wp_loop_rounds 1 ?_
  rw [rounds_succ]
  go_wp2_with (first | ((with_reducible refine gate_builtin (b := .append) (xs := #[.tmp 87, .tmp 89]) rfl ?_); at_builtin; refine app1 rfl (.tmp 87) (.tmp 89) rfl Tryz.underlying97 info5 _ HS.out rfl rfl (by (try simp only [List.length_append, List.length_cons, List.length_nil, List.length_take, List.length_drop]); omega) ?_; intro v_ w_ hs_; have n0_ := Aside0.mk hs_; clear HS hs_; have HS := n0_; clear n0_) | ((with_reducible refine gate_builtin (b := .append) (xs := #[.tmp 93, .tmp 94]) rfl ?_); at_builtin; refine app1 rfl (.tmp 93) (.tmp 94) rfl Tryz.underlying97 info5 _ HS.out rfl rfl (by (try simp only [List.length_append, List.length_cons, List.length_nil, List.length_take, List.length_drop]); omega) ?_; intro v_ w_ hs_; have n0_ := Aside0.mk hs_; clear HS hs_; have HS := n0_; clear n0_) | ((with_reducible refine gate_builtin (b := .append) (xs := #[.tmp 103, .tmp 107]) rfl ?_); at_builtin; refine appN rfl (.tmp 103) (.tmp 107) rfl Tryz.underlying97 info5 _ _ _ _ HS.out (C_part (HS.out.src gs rfl) 1 (nd - 1) (by have := HP.out; omega) (by have := HP.out; omega)) rfl rfl (by (try simp only [List.length_append, List.length_cons, List.length_nil, List.length_take, List.length_drop]); omega) (by omega) ?_; intro v_ w_ hs_; have n0_ := Aside0.mk hs_; clear HS hs_; have HS := n0_; clear n0_) | ((with_reducible refine gate_builtin (b := .append) (xs := #[.tmp 120, .tmp 122]) rfl ?_); at_builtin; refine app1 rfl (.tmp 120) (.tmp 122) rfl Tryz.underlying97 info5 _ HS.out rfl rfl (by (try simp only [List.length_append, List.length_cons, List.length_nil, List.length_take, List.length_drop]); omega) ?_; intro v_ w_ hs_; have n0_ := Aside0.mk hs_; clear HS hs_; have HS := n0_; clear n0_) | ((with_reducible refine gate_builtin (b := .append) (xs := #[.tmp 132, .tmp 134]) rfl ?_); at_builtin; refine app1 rfl (.tmp 132) (.tmp 134) rfl Tryz.underlying97 info5 _ HS.out rfl rfl (by (try simp only [List.length_append, List.length_cons, List.length_nil, List.length_take, List.length_drop]); omega) ?_; intro v_ w_ hs_; have n0_ := Aside0.mk hs_; clear HS hs_; have HS := n0_; clear n0_) | ((with_reducible refine gate_builtin (b := .append) (xs := #[.tmp 155, .tmp 159]) rfl ?_); at_builtin; refine appN rfl (.tmp 155) (.tmp 159) rfl Tryz.underlying97 info5 _ _ _ _ (HS.out.alloc _) (C_new2 _ _ _) rfl rfl (by (try simp only [List.length_append, List.length_cons, List.length_nil, List.length_take, List.length_drop]); omega) (by omega) ?_; intro v_ w_ hs_; have n0_ := Aside0.mk hs_; clear HS hs_; have HS := n0_; clear n0_))
  go_ret
  refine ⟨_, rfl, ?_⟩
  have hs := HS.out
  first | exact hs | (simp only [List.nil_append, List.append_assoc, List.cons_append, List.append_nil] at hs ⊢; exact hs) | (simp at hs ⊢; exact hs)
set_option maxHeartbeats 4000000 in
set_option maxRecDepth 100000 in
theorem efg_26 (neg : Bool) (gs : Nat) (ds : List Int) (dp : Int) (nd : Nat) (hd : ds.length = 32) (hnd : nd ≤ 20) (hdp : -400 ≤ dp) (hdp2 : dp ≤ 400) (w0 w : World) (v : Value) (h : St w0 (some gs) ds w v [])
    (hneg : neg = false) (hn : 2 ≤ nd) (hx : 6 ≤ dp - 1) (hy : ¬ dp - 1 < 10) (hz : dp - 1 < 100) :
    Calls Tryz.prog 99 #[v, .bool neg, .slice (some ⟨gs, 0, none⟩) 32 32, .int .i64 dp, .int .i64 nd, .int .i64 nd, .int .u8 103, .bool true] w fun e w' => ∃ v', e = .returned v' ∧ St w0 (some gs) ds w' v' (eV neg ds dp nd) := by
  subst hneg
  obtain ⟨d0, hd0⟩ : ∃ d0, ds[0]? = some d0 := ⟨ds[0]'(by omega), List.getElem?_eq_getElem (by omega)⟩
  have HD := Aside0.mk hd0
  have HV : Aside0 (eV false ds dp nd = [] ++ [d0] ++ (46 :: (ds.drop 1).take (nd - 1)) ++ [101] ++ (43 :: [(dp - 1) / 10 + 48, (dp - 1) % 10 + 48])) := by
    refine ⟨?_⟩
    have hh : ds.headD 0 = d0 := by cases ds <;> simp_all
    unfold eV sgn expV dig2
    rw [if_neg (show ¬ nd = 0 by omega), if_neg (show ¬ nd = 0 by omega), hh]
    rw [if_pos hn]
    rw [if_neg (show ¬ dp - 1 < 0 by omega)]
    rw [if_neg hy, if_pos hz]
    simp
  rw [HV.out]
  have HS := Aside0.mk h
  clear h hd0 HV
  have q1 : (nd : Int) - 1 > 0 := by omega
  have q2 : ¬ ((nd : Int) - 1 + 1 < (nd : Int)) := by omega
  have q3 : (1 : Int) < (nd : Int) := by omega
  have HN := Aside0.mk hn
  have HP := Aside0.mk hd
  have q4 : (nd : Int) ≤ 32 := by omega
  have q5 : ((nd : Int) == 0) = false := beq_eq_false_iff_ne.2 (by omega)
  have q6 : ((nd : Int) != 0) = true := bne_iff_ne.2 (by omega)
  clear hn hd
  have c0 := (HS.out.src gs rfl).u8_at 0 d0 HD.out
  go_enter Tryz.func99, Tryz.ntmps99
  go_wp2_with (first | ((with_reducible refine gate_builtin (b := .append) (xs := #[.tmp 87, .tmp 89]) rfl ?_); at_builtin; refine app1 rfl (.tmp 87) (.tmp 89) rfl Tryz.underlying97 info5 _ HS.out rfl rfl (by (try simp only [List.length_append, List.length_cons, List.length_nil, List.length_take, List.length_drop]); omega) ?_; intro v_ w_ hs_; have n0_ := Aside0.mk hs_; clear HS hs_; have HS := n0_; clear n0_) | ((with_reducible refine gate_builtin (b := .append) (xs := #[.tmp 93, .tmp 94]) rfl ?_); at_builtin; refine app1 rfl (.tmp 93) (.tmp 94) rfl Tryz.underlying97 info5 _ HS.out rfl rfl (by (try simp only [List.length_append, List.length_cons, List.length_nil, List.length_take, List.length_drop]); omega) ?_; intro v_ w_ hs_; have n0_ := Aside0.mk hs_; clear HS hs_; have HS := n0_; clear n0_) | ((with_reducible refine gate_builtin (b := .append) (xs := #[.tmp 103, .tmp 107]) rfl ?_); at_builtin; refine appN rfl (.tmp 103) (.tmp 107) rfl Tryz.underlying97 info5 _ _ _ _ HS.out (C_part (HS.out.src gs rfl) 1 (nd - 1) (by have := HP.out; omega) (by have := HP.out; omega)) rfl rfl (by (try simp only [List.length_append, List.length_cons, List.length_nil, List.length_take, List.length_drop]); omega) (by omega) ?_; intro v_ w_ hs_; have n0_ := Aside0.mk hs_; clear HS hs_; have HS := n0_; clear n0_) | ((with_reducible refine gate_builtin (b := .append) (xs := #[.tmp 120, .tmp 122]) rfl ?_); at_builtin; refine app1 rfl (.tmp 120) (.tmp 122) rfl Tryz.underlying97 info5 _ HS.out rfl rfl (by (try simp only [List.length_append, List.length_cons, List.length_nil, List.length_take, List.length_drop]); omega) ?_; intro v_ w_ hs_; have n0_ := Aside0.mk hs_; clear HS hs_; have HS := n0_; clear n0_) | ((with_reducible refine gate_builtin (b := .append) (xs := #[.tmp 132, .tmp 134]) rfl ?_); at_builtin; refine app1 rfl (.tmp 132) (.tmp 134) rfl Tryz.underlying97 info5 _ HS.out rfl rfl (by (try simp only [List.length_append, List.length_cons, List.length_nil, List.length_take, List.length_drop]); omega) ?_; intro v_ w_ hs_; have n0_ := Aside0.mk hs_; clear HS hs_; have HS := n0_; clear n0_) | ((with_reducible refine gate_builtin (b := .append) (xs := #[.tmp 164, .tmp 173]) rfl ?_); at_builtin; refine appN rfl (.tmp 164) (.tmp 173) rfl Tryz.underlying97 info5 _ _ _ _ (HS.out.alloc _) (C_new2 _ _ _) rfl rfl (by (try simp only [List.length_append, List.length_cons, List.length_nil, List.length_take, List.length_drop]); omega) (by omega) ?_; intro v_ w_ hs_; have n0_ := Aside0.mk hs_; clear HS hs_; have HS := n0_; clear n0_))
  refine wp_loop_rounds 1 ?_
  rw [rounds_succ]
  go_wp2_with (first | ((with_reducible refine gate_builtin (b := .append) (xs := #[.tmp 87, .tmp 89]) rfl ?_); at_builtin; refine app1 rfl (.tmp 87) (.tmp 89) rfl Tryz.underlying97 info5 _ HS.out rfl rfl (by (try simp only [List.length_append, List.length_cons, List.length_nil, List.length_take, List.length_drop]); omega) ?_; intro v_ w_ hs_; have n0_ := Aside0.mk hs_; clear HS hs_; have HS := n0_; clear n0_) | ((with_reducible refine gate_builtin (b := .append) (xs := #[.tmp 93, .tmp 94]) rfl ?_); at_builtin; refine app1 rfl (.tmp 93) (.tmp 94) rfl Tryz.underlying97 info5 _ HS.out rfl rfl (by (try simp only [List.length_append, List.length_cons, List.length_nil, List.length_take, List.length_drop]); omega) ?_; intro v_ w_ hs_; have n0_ := Aside0.mk hs_; clear HS hs_; have HS := n0_; clear n0_) | ((with_reducible refine gate_builtin (b := .append) (xs := #[.tmp 103, .tmp 107]) rfl ?_); at_builtin; refine appN rfl (.tmp 103) (.tmp 107) rfl Tryz.underlying97 info5 _ _ _ _ HS.out (C_part (HS.out.src gs rfl) 1 (nd - 1) (by have := HP.out; omega) (by have := HP.out; omega)) rfl rfl (by (try simp only [List.length_append, List.length_cons, List.length_nil, List.length_take, List.length_drop]); omega) (by omega) ?_; intro v_ w_ hs_; have n0_ := Aside0.mk hs_; clear HS hs_; have HS := n0_; clear n0_) | ((with_reducible refine gate_builtin (b := .append) (xs := #[.tmp 120, .tmp 122]) rfl ?_); at_builtin; refine app1 rfl (.tmp 120) (.tmp 122) rfl Tryz.underlying97 info5 _ HS.out rfl rfl (by (try simp only [List.length_append, List.length_cons, List.length_nil, List.length_take, List.length_drop]); omega) ?_; intro v_ w_ hs_; have n0_ := Aside0.mk hs_; clear HS hs_; have HS := n0_; clear n0_) | ((with_reducible refine gate_builtin (b := .append) (xs := #[.tmp 132, .tmp 134]) rfl ?_); at_builtin; refine app1 rfl (.tmp 132) (.tmp 134) rfl Tryz.underlying97 info5 _ HS.out rfl rfl (by (try simp only [List.length_append, List.length_cons, List.length_nil, List.length_take, List.length_drop]); omega) ?_; intro v_ w_ hs_; have n0_ := Aside0.mk hs_; clear HS hs_; have HS := n0_; clear n0_) | ((with_reducible refine gate_builtin (b := .append) (xs := #[.tmp 164, .tmp 173]) rfl ?_); at_builtin; refine appN rfl (.tmp 164) (.tmp 173) rfl Tryz.underlying97 info5 _ _ _ _ (HS.out.alloc _) (C_new2 _ _ _) rfl rfl (by (try simp only [List.length_append, List.length_cons, List.length_nil, List.length_take, List.length_drop]); omega) (by omega) ?_; intro v_ w_ hs_; have n0_ := Aside0.mk hs_; clear HS hs_; have HS := n0_; clear n0_))
  go_ret
  refine ⟨_, rfl, ?_⟩
  have hs := HS.out
  first | exact hs | (simp only [List.nil_append, List.append_assoc, List.cons_append, List.append_nil] at hs ⊢; exact hs) | (simp at hs ⊢; exact hs)
set_option maxHeartbeats 4000000 in
set_option maxRecDepth 100000 in
theorem efg_27 (neg : Bool) (gs : Nat) (ds : List Int) (dp : Int) (nd : Nat) (hd : ds.length = 32) (hnd : nd ≤ 20) (hdp : -400 ≤ dp) (hdp2 : dp ≤ 400) (w0 w : World) (v : Value) (h : St w0 (some gs) ds w v [])
    (hneg : neg = false) (hn : 2 ≤ nd) (hx : 6 ≤ dp - 1) (hy : ¬ dp - 1 < 100) :
    Calls Tryz.prog 99 #[v, .bool neg, .slice (some ⟨gs, 0, none⟩) 32 32, .int .i64 dp, .int .i64 nd, .int .i64 nd, .int .u8 103, .bool true] w fun e w' => ∃ v', e = .returned v' ∧ St w0 (some gs) ds w' v' (eV neg ds dp nd) := by
  subst hneg
  obtain ⟨d0, hd0⟩ : ∃ d0, ds[0]? = some d0 := ⟨ds[0]'(by omega), List.getElem?_eq_getElem (by omega)⟩
  have HD := Aside0.mk hd0
  have HV : Aside0 (eV false ds dp nd = [] ++ [d0] ++ (46 :: (ds.drop 1).take (nd - 1)) ++ [101] ++ (43 :: [(dp - 1) / 100 + 48, (dp - 1) / 10 % 10 + 48, (dp - 1) % 10 + 48])) := by
    refine ⟨?_⟩
    have hh : ds.headD 0 = d0 := by cases ds <;> simp_all
    unfold eV sgn expV dig2
    rw [if_neg (show ¬ nd = 0 by omega), if_neg (show ¬ nd = 0 by omega), hh]
    rw [if_pos hn]
    rw [if_neg (show ¬ dp - 1 < 0 by omega)]
    rw [if_neg (show ¬ (dp - 1) < 10 by omega), if_neg hy]
    simp
  rw [HV.out]
  have HS := Aside0.mk h
  clear h hd0 HV
  have q1 : (nd : Int) - 1 > 0 := by omega
  have q2 : ¬ ((nd : Int) - 1 + 1 < (nd : Int)) := by omega
  have q3 : (1 : Int) < (nd : Int) := by omega
  have HN := Aside0.mk hn
  have HP := Aside0.mk hd
  have q4 : (nd : Int) ≤ 32 := by omega
  have q5 : ((nd : Int) == 0) = false := beq_eq_false_iff_ne.2 (by omega)
  have q6 : ((nd : Int) != 0) = true := bne_iff_ne.2 (by omega)
  clear hn hd
  have c0 := (HS.out.src gs rfl).u8_at 0 d0 HD.out
  go_enter Tryz.func99, Tryz.ntmps99
  go_wp2_with (first | ((with_reducible refine gate_builtin (b := .append) (xs := #[.tmp 87, .tmp 89]) rfl ?_); at_builtin; refine app1 rfl (.tmp 87) (.tmp 89) rfl Tryz.underlying97 info5 _ HS.out rfl rfl (by (try simp only [List.length_append, List.length_cons, List.length_nil, List.length_take, List.length_drop]); omega) ?_; intro v_ w_ hs_; have n0_ := Aside0.mk hs_; clear HS hs_; have HS := n0_; clear n0_) | ((with_reducible refine gate_builtin (b := .append) (xs := #[.tmp 93, .tmp 94]) rfl ?_); at_builtin; refine app1 rfl (.tmp 93) (.tmp 94) rfl Tryz.underlying97 info5 _ HS.out rfl rfl (by (try simp only [List.length_append, List.length_cons, List.length_nil, List.length_take, List.length_drop]); omega) ?_; intro v_ w_ hs_; have n0_ := Aside0.mk hs_; clear HS hs_; have HS := n0_; clear n0_) | ((with_reducible refine gate_builtin (b := .append) (xs := #[.tmp 103, .tmp 107]) rfl ?_); at_builtin; refine appN rfl (.tmp 103) (.tmp 107) rfl Tryz.underlying97 info5 _ _ _ _ HS.out (C_part (HS.out.src gs rfl) 1 (nd - 1) (by have := HP.out; omega) (by have := HP.out; omega)) rfl rfl (by (try simp only [List.length_append, List.length_cons, List.length_nil, List.length_take, List.length_drop]); omega) (by omega) ?_; intro v_ w_ hs_; have n0_ := Aside0.mk hs_; clear HS hs_; have HS := n0_; clear n0_) | ((with_reducible refine gate_builtin (b := .append) (xs := #[.tmp 120, .tmp 122]) rfl ?_); at_builtin; refine app1 rfl (.tmp 120) (.tmp 122) rfl Tryz.underlying97 info5 _ HS.out rfl rfl (by (try simp only [List.length_append, List.length_cons, List.length_nil, List.length_take, List.length_drop]); omega) ?_; intro v_ w_ hs_; have n0_ := Aside0.mk hs_; clear HS hs_; have HS := n0_; clear n0_) | ((with_reducible refine gate_builtin (b := .append) (xs := #[.tmp 132, .tmp 134]) rfl ?_); at_builtin; refine app1 rfl (.tmp 132) (.tmp 134) rfl Tryz.underlying97 info5 _ HS.out rfl rfl (by (try simp only [List.length_append, List.length_cons, List.length_nil, List.length_take, List.length_drop]); omega) ?_; intro v_ w_ hs_; have n0_ := Aside0.mk hs_; clear HS hs_; have HS := n0_; clear n0_) | ((with_reducible refine gate_builtin (b := .append) (xs := #[.tmp 136, .tmp 150]) rfl ?_); at_builtin; refine appN rfl (.tmp 136) (.tmp 150) rfl Tryz.underlying97 info5 _ _ _ _ (HS.out.alloc _) (C_new3 _ _ _ _) rfl rfl (by (try simp only [List.length_append, List.length_cons, List.length_nil, List.length_take, List.length_drop]); omega) (by omega) ?_; intro v_ w_ hs_; have n0_ := Aside0.mk hs_; clear HS hs_; have HS := n0_; clear n0_))
  refine wp_loop_rounds 1 ?_
  rw [rounds_succ]
  go_wp2_with (first | ((with_reducible refine gate_builtin (b := .append) (xs := #[.tmp 87, .tmp 89]) rfl ?_); at_builtin; refine app1 rfl (.tmp 87) (.tmp 89) rfl Tryz.underlying97 info5 _ HS.out rfl rfl (by (try simp only [List.length_append, List.length_cons, List.length_nil, List.length_take, List.length_drop]); omega) ?_; intro v_ w_ hs_; have n0_ := Aside0.mk hs_; clear HS hs_; have HS := n0_; clear n0_) | ((with_reducible refine gate_builtin (b := .append) (xs := #[.tmp 93, .tmp 94]) rfl ?_); at_builtin; refine app1 rfl (.tmp 93) (.tmp 94) rfl Tryz.underlying97 info5 _ HS.out rfl rfl (by (try simp only [List.length_append, List.length_cons, List.length_nil, List.length_take, List.length_drop]); omega) ?_; intro v_ w_ hs_; have n0_ := Aside0.mk hs_; clear HS hs_; have HS := n0_; clear n0_) | ((with_reducible refine gate_builtin (b := .append) (xs := #[.tmp 103, .tmp 107]) rfl ?_); at_builtin; refine appN rfl (.tmp 103) (.tmp 107) rfl Tryz.underlying97 info5 _ _ _ _ HS.out (C_part (HS.out.src gs rfl) 1 (nd - 1) (by have := HP.out; omega) (by have := HP.out; omega)) rfl rfl (by (try simp only [List.length_append, List.length_cons, List.length_nil, List.length_take, List.length_drop]); omega) (by omega) ?_; intro v_ w_ hs_; have n0_ := Aside0.mk hs_; clear HS hs_; have HS := n0_; clear n0_) | ((with_reducible refine gate_builtin (b := .append) (xs := #[.tmp 120, .tmp 122]) rfl ?_); at_builtin; refine app1 rfl (.tmp 120) (.tmp 122) rfl Tryz.underlying97 info5 _ HS.out rfl rfl (by (try simp only [List.length_append, List.length_cons, List.length_nil, List.length_take, List.length_drop]); omega) ?_; intro v_ w_ hs_; have n0_ := Aside0.mk hs_; clear HS hs_; have HS := n0_; clear n0_) | ((with_reducible refine gate_builtin (b := .append) (xs := #[.tmp 132, .tmp 134]) rfl ?_); at_builtin; refine app1 rfl (.tmp 132) (.tmp 134) rfl Tryz.underlying97 info5 _ HS.out rfl rfl (by (try simp only [List.length_append, List.length_cons, List.length_nil, List.length_take, List.length_drop]); omega) ?_; intro v_ w_ hs_; have n0_ := Aside0.mk hs_; clear HS hs_; have HS := n0_; clear n0_) | ((with_reducible refine gate_builtin (b := .append) (xs := #[.tmp 136, .tmp 150]) rfl ?_); at_builtin; refine appN rfl (.tmp 136) (.tmp 150) rfl Tryz.underlying97 info5 _ _ _ _ (HS.out.alloc _) (C_new3 _ _ _ _) rfl rfl (by (try simp only [List.length_append, List.length_cons, List.length_nil, List.length_take, List.length_drop]); omega) (by omega) ?_; intro v_ w_ hs_; have n0_ := Aside0.mk hs_; clear HS hs_; have HS := n0_; clear n0_))
  go_ret
  refine ⟨_, rfl, ?_⟩
  have hs := HS.out
  first | exact hs | (simp only [List.nil_append, List.append_assoc, List.cons_append, List.append_nil] at hs ⊢; exact hs) | (simp at hs ⊢; exact hs)
end Go.Proofs.YtjleceekccehoaaGreatDoor.Pr
