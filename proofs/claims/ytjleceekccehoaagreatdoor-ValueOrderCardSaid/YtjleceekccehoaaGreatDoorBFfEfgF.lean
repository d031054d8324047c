/- Texts of this session, cut down to what one claim needs and joined: FfEfgF. -/
import Derived.Test.YtjleceekccehoaaGreatDoorBFfSt
import Derived.Deep.LoopGhost
set_option linter.unusedVariables false
set_option linter.unusedSimpArgs false
namespace Go.Proofs.YtjleceekccehoaaGreatDoor.Pr
open Go.RowKit Go.Proofs.YtjleceekccehoaaGreatDoorW.PrintWords Go.Proofs.YtjleceekccehoaaGreatDoorW.PrintLast Go.Proofs.YtjleceekccehoaaGreatDoorW.PrintMore
attribute [local go_sem] max2_int min2_int max_two min_two max_three min_three

def sgnF (neg : Bool) : List Int := if neg = true then [45] else []
/-- What stands ahead of the point, for dp digits there. -/
def intF (ds : List Int) (dp : Int) (nd : Nat) : List Int := if 0 < dp then ds.take (min nd dp.toNat) ++ List.replicate (dp.toNat - min nd dp.toNat) 48 else [48]
def fracF (ds : List Int) (dp : Int) (nd : Nat) : List Int := if dp < (nd : Int) then 46 :: (List.replicate (-dp).toNat 48 ++ (ds.drop dp.toNat).take (nd - dp.toNat)) else []
def fV (neg : Bool) (ds : List Int) (dp : Int) (nd : Nat) : List Int := sgnF neg ++ intF ds dp nd ++ fracF ds dp nd
-- WALKS
set_option maxHeartbeats 4000000 in
set_option maxRecDepth 100000 in
theorem efgf_0 (neg : Bool) (gs : Nat) (ds : List Int) (p : Nat) (nd : Nat) (hd : ds.length = 32) (hnd : nd ≤ 20) (h1 : 1 ≤ p) (h2 : p ≤ 6) (h3 : p < nd) (w0 w : World) (v : Value) (h : St w0 (some gs) ds w v []) (hneg : neg = true) :
    Calls Tryz.prog 99 #[v, .bool neg, .slice (some ⟨gs, 0, none⟩) 32 32, .int .i64 (p : Int), .int .i64 nd, .int .i64 nd, .int .u8 103, .bool true] w fun e w' => ∃ v', e = .returned v' ∧ St w0 (some gs) ds w' v' ([45] ++ ds.take p ++ (46 :: (ds.drop p).take (nd - p))) := by
  subst hneg
  have HS := Aside0.mk h
  have HP := Aside0.mk hd
  clear h hd
  have h0 : 0 < p := h1
  have hA : decide ((p : Int) - 1 < -4) = false := decide_eq_false (by omega)
  have hB : decide (6 ≤ (p : Int) - 1) = false := decide_eq_false (by omega)
  go_enter Tryz.func99, Tryz.ntmps99
  go_wp2_with (first | ((with_reducible refine gate_builtin (b := .append) (xs := #[.tmp 179, .tmp 180]) rfl ?_); at_builtin; refine app1 rfl (.tmp 179) (.tmp 180) rfl Tryz.underlying97 info5 _ HS.out rfl rfl (by (try simp only [List.length_append, List.length_cons, List.length_nil, List.length_take, List.length_drop, List.length_replicate]); omega) ?_; intro v_ w_ hs_; have n0_ := Aside0.mk hs_; clear HS hs_; have HS := n0_; clear n0_) | ((with_reducible refine gate_builtin (b := .append) (xs := #[.tmp 209, .tmp 210]) rfl ?_); at_builtin; refine app1 rfl (.tmp 209) (.tmp 210) rfl Tryz.underlying97 info5 _ HS.out rfl rfl (by (try simp only [List.length_append, List.length_cons, List.length_nil, List.length_take, List.length_drop, List.length_replicate]); omega) ?_; intro v_ w_ hs_; have n0_ := Aside0.mk hs_; clear HS hs_; have HS := n0_; clear n0_) | ((with_reducible refine gate_builtin (b := .append) (xs := #[.tmp 214, .tmp 215]) rfl ?_); at_builtin; refine app1 rfl (.tmp 214) (.tmp 215) rfl Tryz.underlying97 info5 _ HS.out rfl rfl (by (try simp only [List.length_append, List.length_cons, List.length_nil, List.length_take, List.length_drop, List.length_replicate]); omega) ?_; intro v_ w_ hs_; have n0_ := Aside0.mk hs_; clear HS hs_; have HS := n0_; clear n0_))
  go_loopw [0, 191] (fun v0 v1 w' => ∃ k : Nat, k ≤ p ∧ v1 = .int .i64 k ∧ Aside0 (St w0 (some gs) ds w' v0 (([] ++ [45]) ++ ds.take k))) (fun _ v1 _ => p - (intOf v1).toNat)
  case atStart => exact ⟨0, Nat.zero_le _, rfl, ⟨by simpa using HS.out⟩⟩
  case round =>
    clear HS
    obtain ⟨k, hk, rfl, HS⟩ := hrel
    by_cases hlt : k < p
    · have hl_ : (([] ++ [45])).length ≤ 100 := by (try simp only [List.length_append, List.length_cons, List.length_nil, List.length_take, List.length_drop, List.length_replicate]); omega
      obtain ⟨dk, hdk⟩ : ∃ d, ds[k]? = some d := ⟨ds[k]'(by have := HP.out; omega), List.getElem?_eq_getElem (by have := HP.out; omega)⟩
      have ck := (HS.out.src gs rfl).u8_at (k) dk hdk
      have HDK := Aside0.mk hdk
      clear hdk
      go_wp2_with (first | ((with_reducible refine gate_builtin (b := .append) (xs := #[.tmp 195, .tmp 197]) rfl ?_); at_builtin; refine app1 rfl (.tmp 195) (.tmp 197) rfl Tryz.underlying97 info5 _ HS.out rfl rfl (by (try simp only [List.length_append, List.length_cons, List.length_nil, List.length_take, List.length_drop, List.length_replicate] at hl_ ⊢); omega) ?_; intro v_ w_ hs_; have n0_ := Aside0.mk hs_; clear HS hs_; have HS := n0_; clear n0_))
      go_roundw
      case rel => exact ⟨k + 1, by omega, by go_num, ⟨by have hs := HS.out; rw [List.append_assoc] at hs; rw [show ds.take (k + 1) = ds.take k ++ [dk] from by rw [List.take_add_one, HDK.out]; rfl]; exact hs⟩⟩
      case measure => simp [intOf]; omega
    · have hke : p = k := by omega
      subst hke
      go_wp2_with (fail)
      refine wp_loop_rounds 1 ?_
      rw [rounds_succ]
      go_wp2_with (first | ((with_reducible refine gate_builtin (b := .append) (xs := #[.tmp 179, .tmp 180]) rfl ?_); at_builtin; refine app1 rfl (.tmp 179) (.tmp 180) rfl Tryz.underlying97 info5 _ HS.out rfl rfl (by (try simp only [List.length_append, List.length_cons, List.length_nil, List.length_take, List.length_drop, List.length_replicate]); omega) ?_; intro v_ w_ hs_; have n0_ := Aside0.mk hs_; clear HS hs_; have HS := n0_; clear n0_) | ((with_reducible refine gate_builtin (b := .append) (xs := #[.tmp 209, .tmp 210]) rfl ?_); at_builtin; refine app1 rfl (.tmp 209) (.tmp 210) rfl Tryz.underlying97 info5 _ HS.out rfl rfl (by (try simp only [List.length_append, List.length_cons, List.length_nil, List.length_take, List.length_drop, List.length_replicate]); omega) ?_; intro v_ w_ hs_; have n0_ := Aside0.mk hs_; clear HS hs_; have HS := n0_; clear n0_) | ((with_reducible refine gate_builtin (b := .append) (xs := #[.tmp 214, .tmp 215]) rfl ?_); at_builtin; refine app1 rfl (.tmp 214) (.tmp 215) rfl Tryz.underlying97 info5 _ HS.out rfl rfl (by (try simp only [List.length_append, List.length_cons, List.length_nil, List.length_take, List.length_drop, List.length_replicate]); omega) ?_; intro v_ w_ hs_; have n0_ := Aside0.mk hs_; clear HS hs_; have HS := n0_; clear n0_))
      refine wp_loop_rounds 1 ?_
      rw [rounds_succ]
      go_wp2_with (fail)
      go_loopw [0, 247] (fun v0 v1 w' => ∃ k : Nat, k ≤ (nd - p) ∧ v1 = .int .i64 k ∧ Aside0 (St w0 (some gs) ds w' v0 (([] ++ [45]) ++ ds.take p ++ [46] ++ (ds.drop p).take k))) (fun _ v1 _ => (nd - p) - (intOf v1).toNat)
      case atStart => exact ⟨0, Nat.zero_le _, rfl, ⟨by simpa using HS.out⟩⟩
      case round =>
        clear HS
        obtain ⟨k, hk, rfl, HS⟩ := hrel
        by_cases hlt : k < (nd - p)
        · have hl_ : (([] ++ [45]) ++ ds.take p ++ [46]).length ≤ 100 := by (try simp only [List.length_append, List.length_cons, List.length_nil, List.length_take, List.length_drop, List.length_replicate]); omega
          obtain ⟨dk, hdk⟩ : ∃ d, ds[p + k]? = some d := ⟨ds[p + k]'(by have := HP.out; omega), List.getElem?_eq_getElem (by have := HP.out; omega)⟩
          have ck := (HS.out.src gs rfl).u8_at (p + k) dk hdk
          have HDK := Aside0.mk hdk
          clear hdk
          go_wp2_with (first | ((with_reducible refine gate_builtin (b := .append) (xs := #[.tmp 250, .tmp 257]) rfl ?_); at_builtin; refine app1 rfl (.tmp 250) (.tmp 257) rfl Tryz.underlying97 info5 _ HS.out rfl rfl (by (try simp only [List.length_append, List.length_cons, List.length_nil, List.length_take, List.length_drop, List.length_replicate] at hl_ ⊢); omega) ?_; intro v_ w_ hs_; have n0_ := Aside0.mk hs_; clear HS hs_; have HS := n0_; clear n0_))
          go_roundw
          case rel => exact ⟨k + 1, by omega, by go_num, ⟨by have hs := HS.out; rw [List.append_assoc] at hs; rw [show (ds.drop p).take (k + 1) = (ds.drop p).take k ++ [dk] from by rw [List.take_add_one, List.getElem?_drop, HDK.out]; rfl]; exact hs⟩⟩
          case measure => simp [intOf]; omega
        · have hke : k = (nd - p) := by omega
          subst hke
          go_wp2_with (fail)
          refine wp_loop_rounds 1 ?_
          rw [rounds_succ]
          go_wp2_with (fail)
          go_ret
          refine ⟨_, rfl, ?_⟩
          have hs := HS.out
          first | exact hs | (simp only [List.nil_append, List.append_assoc, List.cons_append, List.append_nil] at hs ⊢; exact hs) | (simp at hs ⊢; exact hs)
set_option maxHeartbeats 4000000 in
set_option maxRecDepth 100000 in
theorem efgf_1 (neg : Bool) (gs : Nat) (ds : List Int) (p : Nat) (nd : Nat) (hd : ds.length = 32) (hnd : nd ≤ 20) (h1 : 1 ≤ p) (h2 : p ≤ 6) (h3 : p = nd) (w0 w : World) (v : Value) (h : St w0 (some gs) ds w v []) (hneg : neg = true) :
    Calls Tryz.prog 99 #[v, .bool neg, .slice (some ⟨gs, 0, none⟩) 32 32, .int .i64 (p : Int), .int .i64 nd, .int .i64 nd, .int .u8 103, .bool true] w fun e w' => ∃ v', e = .returned v' ∧ St w0 (some gs) ds w' v' ([45] ++ ds.take p) := by
  subst hneg
  have HS := Aside0.mk h
  have HP := Aside0.mk hd
  clear h hd
  have h0 : 0 < p := h1
  have hA : decide ((p : Int) - 1 < -4) = false := decide_eq_false (by omega)
  have hB : decide (6 ≤ (p : Int) - 1) = false := decide_eq_false (by omega)
  subst h3
  go_enter Tryz.func99, Tryz.ntmps99
  go_wp2_with (first | ((with_reducible refine gate_builtin (b := .append) (xs := #[.tmp 179, .tmp 180]) rfl ?_); at_builtin; refine app1 rfl (.tmp 179) (.tmp 180) rfl Tryz.underlying97 info5 _ HS.out rfl rfl (by (try simp only [List.length_append, List.length_cons, List.length_nil, List.length_take, List.length_drop, List.length_replicate]); omega) ?_; intro v_ w_ hs_; have n0_ := Aside0.mk hs_; clear HS hs_; have HS := n0_; clear n0_) | ((with_reducible refine gate_builtin (b := .append) (xs := #[.tmp 209, .tmp 210]) rfl ?_); at_builtin; refine app1 rfl (.tmp 209) (.tmp 210) rfl Tryz.underlying97 info5 _ HS.out rfl rfl (by (try simp only [List.length_append, List.length_cons, List.length_nil, List.length_take, List.length_drop, List.length_replicate]); omega) ?_; intro v_ w_ hs_; have n0_ := Aside0.mk hs_; clear HS hs_; have HS := n0_; clear n0_) | ((with_reducible refine gate_builtin (b := .append) (xs := #[.tmp 214, .tmp 215]) rfl ?_); at_builtin; refine app1 rfl (.tmp 214) (.tmp 215) rfl Tryz.underlying97 info5 _ HS.out rfl rfl (by (try simp only [List.length_append, List.length_cons, List.length_nil, List.length_take, List.length_drop, List.length_replicate]); omega) ?_; intro v_ w_ hs_; have n0_ := Aside0.mk hs_; clear HS hs_; have HS := n0_; clear n0_))
  go_loopw [0, 191] (fun v0 v1 w' => ∃ k : Nat, k ≤ p ∧ v1 = .int .i64 k ∧ Aside0 (St w0 (some gs) ds w' v0 (([] ++ [45]) ++ ds.take k))) (fun _ v1 _ => p - (intOf v1).toNat)
  case atStart => exact ⟨0, Nat.zero_le _, rfl, ⟨by simpa using HS.out⟩⟩
  case round =>
    clear HS
    obtain ⟨k, hk, rfl, HS⟩ := hrel
    by_cases hlt : k < p
    · have hl_ : (([] ++ [45])).length ≤ 100 := by (try simp only [List.length_append, List.length_cons, List.length_nil, List.length_take, List.length_drop, List.length_replicate]); omega
      obtain ⟨dk, hdk⟩ : ∃ d, ds[k]? = some d := ⟨ds[k]'(by have := HP.out; omega), List.getElem?_eq_getElem (by have := HP.out; omega)⟩
      have ck := (HS.out.src gs rfl).u8_at (k) dk hdk
      have HDK := Aside0.mk hdk
      clear hdk
      go_wp2_with (first | ((with_reducible refine gate_builtin (b := .append) (xs := #[.tmp 195, .tmp 197]) rfl ?_); at_builtin; refine app1 rfl (.tmp 195) (.tmp 197) rfl Tryz.underlying97 info5 _ HS.out rfl rfl (by (try simp only [List.length_append, List.length_cons, List.length_nil, List.length_take, List.length_drop, List.length_replicate] at hl_ ⊢); omega) ?_; intro v_ w_ hs_; have n0_ := Aside0.mk hs_; clear HS hs_; have HS := n0_; clear n0_))
      go_roundw
      case rel => exact ⟨k + 1, by omega, by go_num, ⟨by have hs := HS.out; rw [List.append_assoc] at hs; rw [show ds.take (k + 1) = ds.take k ++ [dk] from by rw [List.take_add_one, HDK.out]; rfl]; exact hs⟩⟩
      case measure => simp [intOf]; omega
    · have hke : p = k := by omega
      subst hke
      go_wp2_with (fail)
      refine wp_loop_rounds 1 ?_
      rw [rounds_succ]
      go_wp2_with (first | ((with_reducible refine gate_builtin (b := .append) (xs := #[.tmp 179, .tmp 180]) rfl ?_); at_builtin; refine app1 rfl (.tmp 179) (.tmp 180) rfl Tryz.underlying97 info5 _ HS.out rfl rfl (by (try simp only [List.length_append, List.length_cons, List.length_nil, List.length_take, List.length_drop, List.length_replicate]); omega) ?_; intro v_ w_ hs_; have n0_ := Aside0.mk hs_; clear HS hs_; have HS := n0_; clear n0_) | ((with_reducible refine gate_builtin (b := .append) (xs := #[.tmp 209, .tmp 210]) rfl ?_); at_builtin; refine app1 rfl (.tmp 209) (.tmp 210) rfl Tryz.underlying97 info5 _ HS.out rfl rfl (by (try simp only [List.length_append, List.length_cons, List.length_nil, List.length_take, List.length_drop, List.length_replicate]); omega) ?_; intro v_ w_ hs_; have n0_ := Aside0.mk hs_; clear HS hs_; have HS := n0_; clear n0_) | ((with_reducible refine gate_builtin (b := .append) (xs := #[.tmp 214, .tmp 215]) rfl ?_); at_builtin; refine app1 rfl (.tmp 214) (.tmp 215) rfl Tryz.underlying97 info5 _ HS.out rfl rfl (by (try simp only [List.length_append, List.length_cons, List.length_nil, List.length_take, List.length_drop, List.length_replicate]); omega) ?_; intro v_ w_ hs_; have n0_ := Aside0.mk hs_; clear HS hs_; have HS := n0_; clear n0_))
      go_ret
      refine ⟨_, rfl, ?_⟩
      have hs := HS.out
      first | exact hs | (simp only [List.nil_append, List.append_assoc, List.cons_append, List.append_nil] at hs ⊢; exact hs) | (simp at hs ⊢; exact hs)
set_option maxHeartbeats 4000000 in
set_option maxRecDepth 100000 in
theorem efgf_2 (neg : Bool) (gs : Nat) (ds : List Int) (p : Nat) (nd : Nat) (hd : ds.length = 32) (hnd : nd ≤ 20) (h1 : 1 ≤ p) (h2 : p ≤ 6) (h3 : nd < p) (w0 w : World) (v : Value) (h : St w0 (some gs) ds w v []) (hneg : neg = true) :
    Calls Tryz.prog 99 #[v, .bool neg, .slice (some ⟨gs, 0, none⟩) 32 32, .int .i64 (p : Int), .int .i64 nd, .int .i64 nd, .int .u8 103, .bool true] w fun e w' => ∃ v', e = .returned v' ∧ St w0 (some gs) ds w' v' ([45] ++ ds.take nd ++ List.replicate (p - nd) 48) := by
  subst hneg
  have HS := Aside0.mk h
  have HP := Aside0.mk hd
  clear h hd
  have h0 : 0 < p := h1
  have hA : decide ((p : Int) - 1 < -4) = false := decide_eq_false (by omega)
  have hB : decide (6 ≤ (p : Int) - 1) = false := decide_eq_false (by omega)
  have hC : decide (p < nd) = false := decide_eq_false (by omega)
  go_enter Tryz.func99, Tryz.ntmps99
  go_wp2_with (first | ((with_reducible refine gate_builtin (b := .append) (xs := #[.tmp 179, .tmp 180]) rfl ?_); at_builtin; refine app1 rfl (.tmp 179) (.tmp 180) rfl Tryz.underlying97 info5 _ HS.out rfl rfl (by (try simp only [List.length_append, List.length_cons, List.length_nil, List.length_take, List.length_drop, List.length_replicate]); omega) ?_; intro v_ w_ hs_; have n0_ := Aside0.mk hs_; clear HS hs_; have HS := n0_; clear n0_) | ((with_reducible refine gate_builtin (b := .append) (xs := #[.tmp 209, .tmp 210]) rfl ?_); at_builtin; refine app1 rfl (.tmp 209) (.tmp 210) rfl Tryz.underlying97 info5 _ HS.out rfl rfl (by (try simp only [List.length_append, List.length_cons, List.length_nil, List.length_take, List.length_drop, List.length_replicate]); omega) ?_; intro v_ w_ hs_; have n0_ := Aside0.mk hs_; clear HS hs_; have HS := n0_; clear n0_) | ((with_reducible refine gate_builtin (b := .append) (xs := #[.tmp 214, .tmp 215]) rfl ?_); at_builtin; refine app1 rfl (.tmp 214) (.tmp 215) rfl Tryz.underlying97 info5 _ HS.out rfl rfl (by (try simp only [List.length_append, List.length_cons, List.length_nil, List.length_take, List.length_drop, List.length_replicate]); omega) ?_; intro v_ w_ hs_; have n0_ := Aside0.mk hs_; clear HS hs_; have HS := n0_; clear n0_))
  go_loopw [0, 191] (fun v0 v1 w' => ∃ k : Nat, k ≤ nd ∧ v1 = .int .i64 k ∧ Aside0 (St w0 (some gs) ds w' v0 (([] ++ [45]) ++ ds.take k))) (fun _ v1 _ => nd - (intOf v1).toNat)
  case atStart => exact ⟨0, Nat.zero_le _, rfl, ⟨by simpa using HS.out⟩⟩
  case round =>
    clear HS
    obtain ⟨k, hk, rfl, HS⟩ := hrel
    by_cases hlt : k < nd
    · have hl_ : (([] ++ [45])).length ≤ 100 := by (try simp only [List.length_append, List.length_cons, List.length_nil, List.length_take, List.length_drop, List.length_replicate]); omega
      obtain ⟨dk, hdk⟩ : ∃ d, ds[k]? = some d := ⟨ds[k]'(by have := HP.out; omega), List.getElem?_eq_getElem (by have := HP.out; omega)⟩
      have ck := (HS.out.src gs rfl).u8_at (k) dk hdk
      have HDK := Aside0.mk hdk
      clear hdk
      go_wp2_with (first | ((with_reducible refine gate_builtin (b := .append) (xs := #[.tmp 195, .tmp 197]) rfl ?_); at_builtin; refine app1 rfl (.tmp 195) (.tmp 197) rfl Tryz.underlying97 info5 _ HS.out rfl rfl (by (try simp only [List.length_append, List.length_cons, List.length_nil, List.length_take, List.length_drop, List.length_replicate] at hl_ ⊢); omega) ?_; intro v_ w_ hs_; have n0_ := Aside0.mk hs_; clear HS hs_; have HS := n0_; clear n0_))
      go_roundw
      case rel => exact ⟨k + 1, by omega, by go_num, ⟨by have hs := HS.out; rw [List.append_assoc] at hs; rw [show ds.take (k + 1) = ds.take k ++ [dk] from by rw [List.take_add_one, HDK.out]; rfl]; exact hs⟩⟩
      case measure => simp [intOf]; omega
    · have hke : nd = k := by omega
      subst hke
      go_wp2_with (fail)
      go_loopw [0, 203] (fun v0 v1 w' => ∃ k : Nat, k ≤ (p - nd) ∧ v1 = .int .i64 k ∧ Aside0 (St w0 (some gs) ds w' v0 (([] ++ [45]) ++ ds.take nd ++ List.replicate k 48))) (fun _ v1 _ => (p - nd) - (intOf v1).toNat)
      case atStart => exact ⟨0, Nat.zero_le _, rfl, ⟨by simpa using HS.out⟩⟩
      case round =>
        clear HS
        obtain ⟨k, hk, rfl, HS⟩ := hrel
        by_cases hlt : k < (p - nd)
        · have hl_ : (([] ++ [45]) ++ ds.take nd).length ≤ 100 := by (try simp only [List.length_append, List.length_cons, List.length_nil, List.length_take, List.length_drop, List.length_replicate]); omega
          go_wp2_with (first | ((with_reducible refine gate_builtin (b := .append) (xs := #[.tmp 205, .tmp 206]) rfl ?_); at_builtin; refine app1 rfl (.tmp 205) (.tmp 206) rfl Tryz.underlying97 info5 _ HS.out rfl rfl (by (try simp only [List.length_append, List.length_cons, List.length_nil, List.length_take, List.length_drop, List.length_replicate] at hl_ ⊢); omega) ?_; intro v_ w_ hs_; have n0_ := Aside0.mk hs_; clear HS hs_; have HS := n0_; clear n0_))
          go_roundw
          case rel => exact ⟨k + 1, by omega, by go_num, ⟨by have hs := HS.out; rw [List.append_assoc] at hs; rw [show List.replicate (k + 1) (48 : Int) = List.replicate k 48 ++ [48] from List.replicate_succ']; exact hs⟩⟩
          case measure => simp [intOf]; omega
        · have hke : k = (p - nd) := by omega
          subst hke
          go_wp2_with (fail)
          go_ret
          refine ⟨_, rfl, ?_⟩
          have hs := HS.out
          first | exact hs | (simp only [List.nil_append, List.append_assoc, List.cons_append, List.append_nil] at hs ⊢; exact hs) | (simp at hs ⊢; exact hs)
set_option maxHeartbeats 4000000 in
set_option maxRecDepth 100000 in
theorem efgf_3 (neg : Bool) (gs : Nat) (ds : List Int)  (nd : Nat) (hd : ds.length = 32) (hnd : nd ≤ 20) (h1 : nd = 0) (w0 w : World) (v : Value) (h : St w0 (some gs) ds w v []) (hneg : neg = true) :
    Calls Tryz.prog 99 #[v, .bool neg, .slice (some ⟨gs, 0, none⟩) 32 32, .int .i64 0, .int .i64 nd, .int .i64 nd, .int .u8 103, .bool true] w fun e w' => ∃ v', e = .returned v' ∧ St w0 (some gs) ds w' v' ([45] ++ [48]) := by
  subst hneg
  have HS := Aside0.mk h
  have HP := Aside0.mk hd
  clear h hd
  subst h1
  go_enter Tryz.func99, Tryz.ntmps99
  go_wp2_with (first | ((with_reducible refine gate_builtin (b := .append) (xs := #[.tmp 179, .tmp 180]) rfl ?_); at_builtin; refine app1 rfl (.tmp 179) (.tmp 180) rfl Tryz.underlying97 info5 _ HS.out rfl rfl (by (try simp only [List.length_append, List.length_cons, List.length_nil, List.length_take, List.length_drop, List.length_replicate]); omega) ?_; intro v_ w_ hs_; have n0_ := Aside0.mk hs_; clear HS hs_; have HS := n0_; clear n0_) | ((with_reducible refine gate_builtin (b := .append) (xs := #[.tmp 209, .tmp 210]) rfl ?_); at_builtin; refine app1 rfl (.tmp 209) (.tmp 210) rfl Tryz.underlying97 info5 _ HS.out rfl rfl (by (try simp only [List.length_append, List.length_cons, List.length_nil, List.length_take, List.length_drop, List.length_replicate]); omega) ?_; intro v_ w_ hs_; have n0_ := Aside0.mk hs_; clear HS hs_; have HS := n0_; clear n0_) | ((with_reducible refine gate_builtin (b := .append) (xs := #[.tmp 214, .tmp 215]) rfl ?_); at_builtin; refine app1 rfl (.tmp 214) (.tmp 215) rfl Tryz.underlying97 info5 _ HS.out rfl rfl (by (try simp only [List.length_append, List.length_cons, List.length_nil, List.length_take, List.length_drop, List.length_replicate]); omega) ?_; intro v_ w_ hs_; have n0_ := Aside0.mk hs_; clear HS hs_; have HS := n0_; clear n0_))
  go_ret
  refine ⟨_, rfl, ?_⟩
  have hs := HS.out
  first | exact hs | (simp only [List.nil_append, List.append_assoc, List.cons_append, List.append_nil] at hs ⊢; exact hs) | (simp at hs ⊢; exact hs)
set_option maxHeartbeats 4000000 in
set_option maxRecDepth 100000 in
theorem efgf_4 (neg : Bool) (gs : Nat) (ds : List Int)  (nd : Nat) (hd : ds.length = 32) (hnd : nd ≤ 20) (h1 : 0 < nd) (w0 w : World) (v : Value) (h : St w0 (some gs) ds w v []) (hneg : neg = true) :
    Calls Tryz.prog 99 #[v, .bool neg, .slice (some ⟨gs, 0, none⟩) 32 32, .int .i64 0, .int .i64 nd, .int .i64 nd, .int .u8 103, .bool true] w fun e w' => ∃ v', e = .returned v' ∧ St w0 (some gs) ds w' v' ([45] ++ [48] ++ (46 :: ([] ++ ds.take nd))) := by
  subst hneg
  have HS := Aside0.mk h
  have HP := Aside0.mk hd
  clear h hd
  have h6 : (0 : Int) < (nd : Int) := by omega
  have h7 : (0 : Int) < (nd : Int) + 0 := by omega
  have h8 : ¬ ((nd : Int) + 0 < 0) := by omega
  go_enter Tryz.func99, Tryz.ntmps99
  go_wp2_with (first | ((with_reducible refine gate_builtin (b := .append) (xs := #[.tmp 179, .tmp 180]) rfl ?_); at_builtin; refine app1 rfl (.tmp 179) (.tmp 180) rfl Tryz.underlying97 info5 _ HS.out rfl rfl (by (try simp only [List.length_append, List.length_cons, List.length_nil, List.length_take, List.length_drop, List.length_replicate]); omega) ?_; intro v_ w_ hs_; have n0_ := Aside0.mk hs_; clear HS hs_; have HS := n0_; clear n0_) | ((with_reducible refine gate_builtin (b := .append) (xs := #[.tmp 209, .tmp 210]) rfl ?_); at_builtin; refine app1 rfl (.tmp 209) (.tmp 210) rfl Tryz.underlying97 info5 _ HS.out rfl rfl (by (try simp only [List.length_append, List.length_cons, List.length_nil, List.length_take, List.length_drop, List.length_replicate]); omega) ?_; intro v_ w_ hs_; have n0_ := Aside0.mk hs_; clear HS hs_; have HS := n0_; clear n0_) | ((with_reducible refine gate_builtin (b := .append) (xs := #[.tmp 214, .tmp 215]) rfl ?_); at_builtin; refine app1 rfl (.tmp 214) (.tmp 215) rfl Tryz.underlying97 info5 _ HS.out rfl rfl (by (try simp only [List.length_append, List.length_cons, List.length_nil, List.length_take, List.length_drop, List.length_replicate]); omega) ?_; intro v_ w_ hs_; have n0_ := Aside0.mk hs_; clear HS hs_; have HS := n0_; clear n0_))
  refine wp_loop_rounds 1 ?_
  rw [rounds_succ]
  go_wp2_with (first | ((with_reducible refine gate_builtin (b := .append) (xs := #[.tmp 242, .tmp 243]) rfl ?_); at_builtin; refine app1 rfl (.tmp 242) (.tmp 243) rfl Tryz.underlying97 info5 _ HS.out rfl rfl (by (try simp only [List.length_append, List.length_cons, List.length_nil, List.length_take, List.length_drop, List.length_replicate]); omega) ?_; intro v_ w_ hs_; have n0_ := Aside0.mk hs_; clear HS hs_; have HS := n0_; clear n0_))
  go_loopw [0, 247] (fun v0 v1 w' => ∃ k : Nat, k ≤ nd ∧ v1 = .int .i64 k ∧ Aside0 (St w0 (some gs) ds w' v0 (([] ++ [45]) ++ [48] ++ [46] ++ ds.take k))) (fun _ v1 _ => nd - (intOf v1).toNat)
  case atStart => exact ⟨0, Nat.zero_le _, rfl, ⟨by simpa using HS.out⟩⟩
  case round =>
    clear HS
    obtain ⟨k, hk, rfl, HS⟩ := hrel
    by_cases hlt : k < nd
    · have hl_ : (([] ++ [45]) ++ [48] ++ [46]).length ≤ 100 := by (try simp only [List.length_append, List.length_cons, List.length_nil, List.length_take, List.length_drop, List.length_replicate]); omega
      obtain ⟨dk, hdk⟩ : ∃ d, ds[k]? = some d := ⟨ds[k]'(by have := HP.out; omega), List.getElem?_eq_getElem (by have := HP.out; omega)⟩
      have ck := (HS.out.src gs rfl).u8_at (k) dk hdk
      have HDK := Aside0.mk hdk
      clear hdk
      go_wp2_with (first | ((with_reducible refine gate_builtin (b := .append) (xs := #[.tmp 250, .tmp 257]) rfl ?_); at_builtin; refine app1 rfl (.tmp 250) (.tmp 257) rfl Tryz.underlying97 info5 _ HS.out rfl rfl (by (try simp only [List.length_append, List.length_cons, List.length_nil, List.length_take, List.length_drop, List.length_replicate] at hl_ ⊢); omega) ?_; intro v_ w_ hs_; have n0_ := Aside0.mk hs_; clear HS hs_; have HS := n0_; clear n0_))
      go_roundw
      case rel => exact ⟨k + 1, by omega, by go_num, ⟨by have hs := HS.out; rw [List.append_assoc] at hs; rw [show ds.take (k + 1) = ds.take k ++ [dk] from by rw [List.take_add_one, HDK.out]; rfl]; exact hs⟩⟩
      case measure => simp [intOf]; omega
    · have hke : nd = k := by omega
      subst hke
      go_wp2_with (fail)
      refine wp_loop_rounds 1 ?_
      rw [rounds_succ]
      go_wp2_with (fail)
      go_ret
      refine ⟨_, rfl, ?_⟩
      have hs := HS.out
      first | exact hs | (simp only [List.nil_append, List.append_assoc, List.cons_append, List.append_nil] at hs ⊢; exact hs) | (simp at hs ⊢; exact hs)
set_option maxHeartbeats 4000000 in
set_option maxRecDepth 100000 in
theorem efgf_5 (neg : Bool) (gs : Nat) (ds : List Int)  (nd : Nat) (hd : ds.length = 32) (hnd : nd ≤ 20) (h1 : 0 < nd) (w0 w : World) (v : Value) (h : St w0 (some gs) ds w v []) (hneg : neg = true) :
    Calls Tryz.prog 99 #[v, .bool neg, .slice (some ⟨gs, 0, none⟩) 32 32, .int .i64 (-1), .int .i64 nd, .int .i64 nd, .int .u8 103, .bool true] w fun e w' => ∃ v', e = .returned v' ∧ St w0 (some gs) ds w' v' ([45] ++ [48] ++ (46 :: ([48] ++ ds.take nd))) := by
  subst hneg
  have HS := Aside0.mk h
  have HP := Aside0.mk hd
  clear h hd
  have h6 : (0 : Int) < (nd : Int) := by omega
  have h7 : (1 : Int) < (nd : Int) + 1 := by omega
  have h8 : ¬ ((nd : Int) + 1 < 1) := by omega
  go_enter Tryz.func99, Tryz.ntmps99
  go_wp2_with (first | ((with_reducible refine gate_builtin (b := .append) (xs := #[.tmp 179, .tmp 180]) rfl ?_); at_builtin; refine app1 rfl (.tmp 179) (.tmp 180) rfl Tryz.underlying97 info5 _ HS.out rfl rfl (by (try simp only [List.length_append, List.length_cons, List.length_nil, List.length_take, List.length_drop, List.length_replicate]); omega) ?_; intro v_ w_ hs_; have n0_ := Aside0.mk hs_; clear HS hs_; have HS := n0_; clear n0_) | ((with_reducible refine gate_builtin (b := .append) (xs := #[.tmp 209, .tmp 210]) rfl ?_); at_builtin; refine app1 rfl (.tmp 209) (.tmp 210) rfl Tryz.underlying97 info5 _ HS.out rfl rfl (by (try simp only [List.length_append, List.length_cons, List.length_nil, List.length_take, List.length_drop, List.length_replicate]); omega) ?_; intro v_ w_ hs_; have n0_ := Aside0.mk hs_; clear HS hs_; have HS := n0_; clear n0_) | ((with_reducible refine gate_builtin (b := .append) (xs := #[.tmp 214, .tmp 215]) rfl ?_); at_builtin; refine app1 rfl (.tmp 214) (.tmp 215) rfl Tryz.underlying97 info5 _ HS.out rfl rfl (by (try simp only [List.length_append, List.length_cons, List.length_nil, List.length_take, List.length_drop, List.length_replicate]); omega) ?_; intro v_ w_ hs_; have n0_ := Aside0.mk hs_; clear HS hs_; have HS := n0_; clear n0_))
  refine wp_loop_rounds 2 ?_
  rw [rounds_succ]
  go_wp2_with (first | ((with_reducible refine gate_builtin (b := .append) (xs := #[.tmp 242, .tmp 243]) rfl ?_); at_builtin; refine app1 rfl (.tmp 242) (.tmp 243) rfl Tryz.underlying97 info5 _ HS.out rfl rfl (by (try simp only [List.length_append, List.length_cons, List.length_nil, List.length_take, List.length_drop, List.length_replicate]); omega) ?_; intro v_ w_ hs_; have n0_ := Aside0.mk hs_; clear HS hs_; have HS := n0_; clear n0_))
  rw [rounds_succ]
  go_wp2_with (first | ((with_reducible refine gate_builtin (b := .append) (xs := #[.tmp 242, .tmp 243]) rfl ?_); at_builtin; refine app1 rfl (.tmp 242) (.tmp 243) rfl Tryz.underlying97 info5 _ HS.out rfl rfl (by (try simp only [List.length_append, List.length_cons, List.length_nil, List.length_take, List.length_drop, List.length_replicate]); omega) ?_; intro v_ w_ hs_; have n0_ := Aside0.mk hs_; clear HS hs_; have HS := n0_; clear n0_))
  go_loopw [0, 247] (fun v0 v1 w' => ∃ k : Nat, k ≤ nd ∧ v1 = .int .i64 k ∧ Aside0 (St w0 (some gs) ds w' v0 (([] ++ [45]) ++ [48] ++ [46] ++ [48] ++ ds.take k))) (fun _ v1 _ => nd - (intOf v1).toNat)
  case atStart => exact ⟨0, Nat.zero_le _, rfl, ⟨by simpa using HS.out⟩⟩
  case round =>
    clear HS
    obtain ⟨k, hk, rfl, HS⟩ := hrel
    by_cases hlt : k < nd
    · have hl_ : (([] ++ [45]) ++ [48] ++ [46] ++ [48]).length ≤ 100 := by (try simp only [List.length_append, List.length_cons, List.length_nil, List.length_take, List.length_drop, List.length_replicate]); omega
      obtain ⟨dk, hdk⟩ : ∃ d, ds[k]? = some d := ⟨ds[k]'(by have := HP.out; omega), List.getElem?_eq_getElem (by have := HP.out; omega)⟩
      have ck := (HS.out.src gs rfl).u8_at (k) dk hdk
      have HDK := Aside0.mk hdk
      clear hdk
      go_wp2_with (first | ((with_reducible refine gate_builtin (b := .append) (xs := #[.tmp 250, .tmp 257]) rfl ?_); at_builtin; refine app1 rfl (.tmp 250) (.tmp 257) rfl Tryz.underlying97 info5 _ HS.out rfl rfl (by (try simp only [List.length_append, List.length_cons, List.length_nil, List.length_take, List.length_drop, List.length_replicate] at hl_ ⊢); omega) ?_; intro v_ w_ hs_; have n0_ := Aside0.mk hs_; clear HS hs_; have HS := n0_; clear n0_))
      go_roundw
      case rel => exact ⟨k + 1, by omega, by go_num, ⟨by have hs := HS.out; rw [List.append_assoc] at hs; rw [show ds.take (k + 1) = ds.take k ++ [dk] from by rw [List.take_add_one, HDK.out]; rfl]; exact hs⟩⟩
      case measure => simp [intOf]; omega
    · have hke : nd = k := by omega
      subst hke
      go_wp2_with (fail)
      refine wp_loop_rounds 1 ?_
      rw [rounds_succ]
      go_wp2_with (fail)
      go_ret
      refine ⟨_, rfl, ?_⟩
      have hs := HS.out
      first | exact hs | (simp only [List.nil_append, List.append_assoc, List.cons_append, List.append_nil] at hs ⊢; exact hs) | (simp at hs ⊢; exact hs)
set_option maxHeartbeats 4000000 in
set_option maxRecDepth 100000 in
theorem efgf_6 (neg : Bool) (gs : Nat) (ds : List Int)  (nd : Nat) (hd : ds.length = 32) (hnd : nd ≤ 20) (h1 : 0 < nd) (w0 w : World) (v : Value) (h : St w0 (some gs) ds w v []) (hneg : neg = true) :
    Calls Tryz.prog 99 #[v, .bool neg, .slice (some ⟨gs, 0, none⟩) 32 32, .int .i64 (-2), .int .i64 nd, .int .i64 nd, .int .u8 103, .bool true] w fun e w' => ∃ v', e = .returned v' ∧ St w0 (some gs) ds w' v' ([45] ++ [48] ++ (46 :: ([48, 48] ++ ds.take nd))) := by
  subst hneg
  have HS := Aside0.mk h
  have HP := Aside0.mk hd
  clear h hd
  have h6 : (0 : Int) < (nd : Int) := by omega
  have h7 : (2 : Int) < (nd : Int) + 2 := by omega
  have h8 : ¬ ((nd : Int) + 2 < 2) := by omega
  go_enter Tryz.func99, Tryz.ntmps99
  go_wp2_with (first | ((with_reducible refine gate_builtin (b := .append) (xs := #[.tmp 179, .tmp 180]) rfl ?_); at_builtin; refine app1 rfl (.tmp 179) (.tmp 180) rfl Tryz.underlying97 info5 _ HS.out rfl rfl (by (try simp only [List.length_append, List.length_cons, List.length_nil, List.length_take, List.length_drop, List.length_replicate]); omega) ?_; intro v_ w_ hs_; have n0_ := Aside0.mk hs_; clear HS hs_; have HS := n0_; clear n0_) | ((with_reducible refine gate_builtin (b := .append) (xs := #[.tmp 209, .tmp 210]) rfl ?_); at_builtin; refine app1 rfl (.tmp 209) (.tmp 210) rfl Tryz.underlying97 info5 _ HS.out rfl rfl (by (try simp only [List.length_append, List.length_cons, List.length_nil, List.length_take, List.length_drop, List.length_replicate]); omega) ?_; intro v_ w_ hs_; have n0_ := Aside0.mk hs_; clear HS hs_; have HS := n0_; clear n0_) | ((with_reducible refine gate_builtin (b := .append) (xs := #[.tmp 214, .tmp 215]) rfl ?_); at_builtin; refine app1 rfl (.tmp 214) (.tmp 215) rfl Tryz.underlying97 info5 _ HS.out rfl rfl (by (try simp only [List.length_append, List.length_cons, List.length_nil, List.length_take, List.length_drop, List.length_replicate]); omega) ?_; intro v_ w_ hs_; have n0_ := Aside0.mk hs_; clear HS hs_; have HS := n0_; clear n0_))
  refine wp_loop_rounds 3 ?_
  rw [rounds_succ]
  go_wp2_with (first | ((with_reducible refine gate_builtin (b := .append) (xs := #[.tmp 242, .tmp 243]) rfl ?_); at_builtin; refine app1 rfl (.tmp 242) (.tmp 243) rfl Tryz.underlying97 info5 _ HS.out rfl rfl (by (try simp only [List.length_append, List.length_cons, List.length_nil, List.length_take, List.length_drop, List.length_replicate]); omega) ?_; intro v_ w_ hs_; have n0_ := Aside0.mk hs_; clear HS hs_; have HS := n0_; clear n0_))
  rw [rounds_succ]
  go_wp2_with (first | ((with_reducible refine gate_builtin (b := .append) (xs := #[.tmp 242, .tmp 243]) rfl ?_); at_builtin; refine app1 rfl (.tmp 242) (.tmp 243) rfl Tryz.underlying97 info5 _ HS.out rfl rfl (by (try simp only [List.length_append, List.length_cons, List.length_nil, List.length_take, List.length_drop, List.length_replicate]); omega) ?_; intro v_ w_ hs_; have n0_ := Aside0.mk hs_; clear HS hs_; have HS := n0_; clear n0_))
  rw [rounds_succ]
  go_wp2_with (first | ((with_reducible refine gate_builtin (b := .append) (xs := #[.tmp 242, .tmp 243]) rfl ?_); at_builtin; refine app1 rfl (.tmp 242) (.tmp 243) rfl Tryz.underlying97 info5 _ HS.out rfl rfl (by (try simp only [List.length_append, List.length_cons, List.length_nil, List.length_take, List.length_drop, List.length_replicate]); omega) ?_; intro v_ w_ hs_; have n0_ := Aside0.mk hs_; clear HS hs_; have HS := n0_; clear n0_))
  go_loopw [0, 247] (fun v0 v1 w' => ∃ k : Nat, k ≤ nd ∧ v1 = .int .i64 k ∧ Aside0 (St w0 (some gs) ds w' v0 (([] ++ [45]) ++ [48] ++ [46] ++ [48] ++ [48] ++ ds.take k))) (fun _ v1 _ => nd - (intOf v1).toNat)
  case atStart => exact ⟨0, Nat.zero_le _, rfl, ⟨by simpa using HS.out⟩⟩
  case round =>
    clear HS
    obtain ⟨k, hk, rfl, HS⟩ := hrel
    by_cases hlt : k < nd
    · have hl_ : (([] ++ [45]) ++ [48] ++ [46] ++ [48] ++ [48]).length ≤ 100 := by (try simp only [List.length_append, List.length_cons, List.length_nil, List.length_take, List.length_drop, List.length_replicate]); omega
      obtain ⟨dk, hdk⟩ : ∃ d, ds[k]? = some d := ⟨ds[k]'(by have := HP.out; omega), List.getElem?_eq_getElem (by have := HP.out; omega)⟩
      have ck := (HS.out.src gs rfl).u8_at (k) dk hdk
      have HDK := Aside0.mk hdk
      clear hdk
      go_wp2_with (first | ((with_reducible refine gate_builtin (b := .append) (xs := #[.tmp 250, .tmp 257]) rfl ?_); at_builtin; refine app1 rfl (.tmp 250) (.tmp 257) rfl Tryz.underlying97 info5 _ HS.out rfl rfl (by (try simp only [List.length_append, List.length_cons, List.length_nil, List.length_take, List.length_drop, List.length_replicate] at hl_ ⊢); omega) ?_; intro v_ w_ hs_; have n0_ := Aside0.mk hs_; clear HS hs_; have HS := n0_; clear n0_))
      go_roundw
      case rel => exact ⟨k + 1, by omega, by go_num, ⟨by have hs := HS.out; rw [List.append_assoc] at hs; rw [show ds.take (k + 1) = ds.take k ++ [dk] from by rw [List.take_add_one, HDK.out]; rfl]; exact hs⟩⟩
      case measure => simp [intOf]; omega
    · have hke : nd = k := by omega
      subst hke
      go_wp2_with (fail)
      refine wp_loop_rounds 1 ?_
      rw [rounds_succ]
      go_wp2_with (fail)
      go_ret
      refine ⟨_, rfl, ?_⟩
      have hs := HS.out
      first | exact hs | (simp only [List.nil_append, List.append_assoc, List.cons_append, List.append_nil] at hs ⊢; exact hs) | (simp at hs ⊢; exact hs)
set_option maxHeartbeats 4000000 in
set_option maxRecDepth 100000 in
theorem efgf_7 (neg : Bool) (gs : Nat) (ds : List Int)  (nd : Nat) (hd : ds.length = 32) (hnd : nd ≤ 20) (h1 : 0 < nd) (w0 w : World) (v : Value) (h : St w0 (some gs) ds w v []) (hneg : neg = true) :
    Calls Tryz.prog 99 #[v, .bool neg, .slice (some ⟨gs, 0, none⟩) 32 32, .int .i64 (-3), .int .i64 nd, .int .i64 nd, .int .u8 103, .bool true] w fun e w' => ∃ v', e = .returned v' ∧ St w0 (some gs) ds w' v' ([45] ++ [48] ++ (46 :: ([48, 48, 48] ++ ds.take nd))) := by
  subst hneg
  have HS := Aside0.mk h
  have HP := Aside0.mk hd
  clear h hd
  have h6 : (0 : Int) < (nd : Int) := by omega
  have h7 : (3 : Int) < (nd : Int) + 3 := by omega
  have h8 : ¬ ((nd : Int) + 3 < 3) := by omega
  go_enter Tryz.func99, Tryz.ntmps99
  go_wp2_with (first | ((with_reducible refine gate_builtin (b := .append) (xs := #[.tmp 179, .tmp 180]) rfl ?_); at_builtin; refine app1 rfl (.tmp 179) (.tmp 180) rfl Tryz.underlying97 info5 _ HS.out rfl rfl (by (try simp only [List.length_append, List.length_cons, List.length_nil, List.length_take, List.length_drop, List.length_replicate]); omega) ?_; intro v_ w_ hs_; have n0_ := Aside0.mk hs_; clear HS hs_; have HS := n0_; clear n0_) | ((with_reducible refine gate_builtin (b := .append) (xs := #[.tmp 209, .tmp 210]) rfl ?_); at_builtin; refine app1 rfl (.tmp 209) (.tmp 210) rfl Tryz.underlying97 info5 _ HS.out rfl rfl (by (try simp only [List.length_append, List.length_cons, List.length_nil, List.length_take, List.length_drop, List.length_replicate]); omega) ?_; intro v_ w_ hs_; have n0_ := Aside0.mk hs_; clear HS hs_; have HS := n0_; clear n0_) | ((with_reducible refine gate_builtin (b := .append) (xs := #[.tmp 214, .tmp 215]) rfl ?_); at_builtin; refine app1 rfl (.tmp 214) (.tmp 215) rfl Tryz.underlying97 info5 _ HS.out rfl rfl (by (try simp only [List.length_append, List.length_cons, List.length_nil, List.length_take, List.length_drop, List.length_replicate]); omega) ?_; intro v_ w_ hs_; have n0_ := Aside0.mk hs_; clear HS hs_; have HS := n0_; clear n0_))
  refine wp_loop_rounds 4 ?_
  rw [rounds_succ]
  go_wp2_with (first | ((with_reducible refine gate_builtin (b := .append) (xs := #[.tmp 242, .tmp 243]) rfl ?_); at_builtin; refine app1 rfl (.tmp 242) (.tmp 243) rfl Tryz.underlying97 info5 _ HS.out rfl rfl (by (try simp only [List.length_append, List.length_cons, List.length_nil, List.length_take, List.length_drop, List.length_replicate]); omega) ?_; intro v_ w_ hs_; have n0_ := Aside0.mk hs_; clear HS hs_; have HS := n0_; clear n0_))
  rw [rounds_succ]
  go_wp2_with (first | ((with_reducible refine gate_builtin (b := .append) (xs := #[.tmp 242, .tmp 243]) rfl ?_); at_builtin; refine app1 rfl (.tmp 242) (.tmp 243) rfl Tryz.underlying97 info5 _ HS.out rfl rfl (by (try simp only [List.length_append, List.length_cons, List.length_nil, List.length_take, List.length_drop, List.length_replicate]); omega) ?_; intro v_ w_ hs_; have n0_ := Aside0.mk hs_; clear HS hs_; have HS := n0_; clear n0_))
  rw [rounds_succ]
  go_wp2_with (first | ((with_reducible refine gate_builtin (b := .append) (xs := #[.tmp 242, .tmp 243]) rfl ?_); at_builtin; refine app1 rfl (.tmp 242) (.tmp 243) rfl Tryz.underlying97 info5 _ HS.out rfl rfl (by (try simp only [List.length_append, List.length_cons, List.length_nil, List.length_take, List.length_drop, List.length_replicate]); omega) ?_; intro v_ w_ hs_; have n0_ := Aside0.mk hs_; clear HS hs_; have HS := n0_; clear n0_))
  rw [rounds_succ]
  go_wp2_with (first | ((with_reducible refine gate_builtin (b := .append) (xs := #[.tmp 242, .tmp 243]) rfl ?_); at_builtin; refine app1 rfl (.tmp 242) (.tmp 243) rfl Tryz.underlying97 info5 _ HS.out rfl rfl (by (try simp only [List.length_append, List.length_cons, List.length_nil, List.length_take, List.length_drop, List.length_replicate]); omega) ?_; intro v_ w_ hs_; have n0_ := Aside0.mk hs_; clear HS hs_; have HS := n0_; clear n0_))
  go_loopw [0, 247] (fun v0 v1 w' => ∃ k : Nat, k ≤ nd ∧ v1 = .int .i64 k ∧ Aside0 (St w0 (some gs) ds w' v0 (([] ++ [45]) ++ [48] ++ [46] ++ [48] ++ [48] ++ [48] ++ ds.take k))) (fun _ v1 _ => nd - (intOf v1).toNat)
  case atStart => exact ⟨0, Nat.zero_le _, rfl, ⟨by simpa using HS.out⟩⟩
  case round =>
    clear HS
    obtain ⟨k, hk, rfl, HS⟩ := hrel
    by_cases hlt : k < nd
    · have hl_ : (([] ++ [45]) ++ [48] ++ [46] ++ [48] ++ [48] ++ [48]).length ≤ 100 := by (try simp only [List.length_append, List.length_cons, List.length_nil, List.length_take, List.length_drop, List.length_replicate]); omega
      obtain ⟨dk, hdk⟩ : ∃ d, ds[k]? = some d := ⟨ds[k]'(by have := HP.out; omega), List.getElem?_eq_getElem (by have := HP.out; omega)⟩
      have ck := (HS.out.src gs rfl).u8_at (k) dk hdk
      have HDK := Aside0.mk hdk
      clear hdk
      go_wp2_with (first | ((with_reducible refine gate_builtin (b := .append) (xs := #[.tmp 250, .tmp 257]) rfl ?_); at_builtin; refine app1 rfl (.tmp 250) (.tmp 257) rfl Tryz.underlying97 info5 _ HS.out rfl rfl (by (try simp only [List.length_append, List.length_cons, List.length_nil, List.length_take, List.length_drop, List.length_replicate] at hl_ ⊢); omega) ?_; intro v_ w_ hs_; have n0_ := Aside0.mk hs_; clear HS hs_; have HS := n0_; clear n0_))
      go_roundw
      case rel => exact ⟨k + 1, by omega, by go_num, ⟨by have hs := HS.out; rw [List.append_assoc] at hs; rw [show ds.take (k + 1) = ds.take k ++ [dk] from by rw [List.take_add_one, HDK.out]; rfl]; exact hs⟩⟩
      case measure => simp [intOf]; omega
    · have hke : nd = k := by omega
      subst hke
      go_wp2_with (fail)
      refine wp_loop_rounds 1 ?_
      rw [rounds_succ]
      go_wp2_with (fail)
      go_ret
      refine ⟨_, rfl, ?_⟩
      have hs := HS.out
      first | exact hs | (simp only [List.nil_append, List.append_assoc, List.cons_append, List.append_nil] at hs ⊢; exact hs) | (simp at hs ⊢; exact hs)
set_option maxHeartbeats 4000000 in
set_option maxRecDepth 100000 in
theorem efgf_8 (neg : Bool) (gs : Nat) (ds : List Int)  (nd : Nat) (hd : ds.length = 32) (hnd : nd ≤ 20) (h1 : nd = 0) (w0 w : World) (v : Value) (h : St w0 (some gs) ds w v []) (hneg : neg = true) :
    Calls Tryz.prog 99 #[v, .bool neg, .slice (some ⟨gs, 0, none⟩) 32 32, .int .i64 (-1), .int .i64 nd, .int .i64 nd, .int .u8 103, .bool true] w fun e w' => ∃ v', e = .returned v' ∧ St w0 (some gs) ds w' v' ([45] ++ [48] ++ (46 :: [48])) := by
  subst hneg
  have HS := Aside0.mk h
  have HP := Aside0.mk hd
  clear h hd
  subst h1
  go_enter Tryz.func99, Tryz.ntmps99
  go_wp2_with (first | ((with_reducible refine gate_builtin (b := .append) (xs := #[.tmp 179, .tmp 180]) rfl ?_); at_builtin; refine app1 rfl (.tmp 179) (.tmp 180) rfl Tryz.underlying97 info5 _ HS.out rfl rfl (by (try simp only [List.length_append, List.length_cons, List.length_nil, List.length_take, List.length_drop, List.length_replicate]); omega) ?_; intro v_ w_ hs_; have n0_ := Aside0.mk hs_; clear HS hs_; have HS := n0_; clear n0_) | ((with_reducible refine gate_builtin (b := .append) (xs := #[.tmp 209, .tmp 210]) rfl ?_); at_builtin; refine app1 rfl (.tmp 209) (.tmp 210) rfl Tryz.underlying97 info5 _ HS.out rfl rfl (by (try simp only [List.length_append, List.length_cons, List.length_nil, List.length_take, List.length_drop, List.length_replicate]); omega) ?_; intro v_ w_ hs_; have n0_ := Aside0.mk hs_; clear HS hs_; have HS := n0_; clear n0_) | ((with_reducible refine gate_builtin (b := .append) (xs := #[.tmp 214, .tmp 215]) rfl ?_); at_builtin; refine app1 rfl (.tmp 214) (.tmp 215) rfl Tryz.underlying97 info5 _ HS.out rfl rfl (by (try simp only [List.length_append, List.length_cons, List.length_nil, List.length_take, List.length_drop, List.length_replicate]); omega) ?_; intro v_ w_ hs_; have n0_ := Aside0.mk hs_; clear HS hs_; have HS := n0_; clear n0_))
  refine wp_loop_rounds 2 ?_
  rw [rounds_succ]
  go_wp2_with (first | ((with_reducible refine gate_builtin (b := .append) (xs := #[.tmp 242, .tmp 243]) rfl ?_); at_builtin; refine app1 rfl (.tmp 242) (.tmp 243) rfl Tryz.underlying97 info5 _ HS.out rfl rfl (by (try simp only [List.length_append, List.length_cons, List.length_nil, List.length_take, List.length_drop, List.length_replicate]); omega) ?_; intro v_ w_ hs_; have n0_ := Aside0.mk hs_; clear HS hs_; have HS := n0_; clear n0_))
  rw [rounds_succ]
  go_wp2_with (first | ((with_reducible refine gate_builtin (b := .append) (xs := #[.tmp 242, .tmp 243]) rfl ?_); at_builtin; refine app1 rfl (.tmp 242) (.tmp 243) rfl Tryz.underlying97 info5 _ HS.out rfl rfl (by (try simp only [List.length_append, List.length_cons, List.length_nil, List.length_take, List.length_drop, List.length_replicate]); omega) ?_; intro v_ w_ hs_; have n0_ := Aside0.mk hs_; clear HS hs_; have HS := n0_; clear n0_))
  refine wp_loop_rounds 1 ?_
  rw [rounds_succ]
  go_wp2_with (fail)
  refine wp_loop_rounds 1 ?_
  rw [rounds_succ]
  go_wp2_with (fail)
  go_ret
  refine ⟨_, rfl, ?_⟩
  have hs := HS.out
  first | exact hs | (simp only [List.nil_append, List.append_assoc, List.cons_append, List.append_nil] at hs ⊢; exact hs) | (simp at hs ⊢; exact hs)
set_option maxHeartbeats 4000000 in
set_option maxRecDepth 100000 in
theorem efgf_9 (neg : Bool) (gs : Nat) (ds : List Int)  (nd : Nat) (hd : ds.length = 32) (hnd : nd ≤ 20) (h1 : nd = 0) (w0 w : World) (v : Value) (h : St w0 (some gs) ds w v []) (hneg : neg = true) :
    Calls Tryz.prog 99 #[v, .bool neg, .slice (some ⟨gs, 0, none⟩) 32 32, .int .i64 (-2), .int .i64 nd, .int .i64 nd, .int .u8 103, .bool true] w fun e w' => ∃ v', e = .returned v' ∧ St w0 (some gs) ds w' v' ([45] ++ [48] ++ (46 :: [48, 48])) := by
  subst hneg
  have HS := Aside0.mk h
  have HP := Aside0.mk hd
  clear h hd
  subst h1
  go_enter Tryz.func99, Tryz.ntmps99
  go_wp2_with (first | ((with_reducible refine gate_builtin (b := .append) (xs := #[.tmp 179, .tmp 180]) rfl ?_); at_builtin; refine app1 rfl (.tmp 179) (.tmp 180) rfl Tryz.underlying97 info5 _ HS.out rfl rfl (by (try simp only [List.length_append, List.length_cons, List.length_nil, List.length_take, List.length_drop, List.length_replicate]); omega) ?_; intro v_ w_ hs_; have n0_ := Aside0.mk hs_; clear HS hs_; have HS := n0_; clear n0_) | ((with_reducible refine gate_builtin (b := .append) (xs := #[.tmp 209, .tmp 210]) rfl ?_); at_builtin; refine app1 rfl (.tmp 209) (.tmp 210) rfl Tryz.underlying97 info5 _ HS.out rfl rfl (by (try simp only [List.length_append, List.length_cons, List.length_nil, List.length_take, List.length_drop, List.length_replicate]); omega) ?_; intro v_ w_ hs_; have n0_ := Aside0.mk hs_; clear HS hs_; have HS := n0_; clear n0_) | ((with_reducible refine gate_builtin (b := .append) (xs := #[.tmp 214, .tmp 215]) rfl ?_); at_builtin; refine app1 rfl (.tmp 214) (.tmp 215) rfl Tryz.underlying97 info5 _ HS.out rfl rfl (by (try simp only [List.length_append, List.length_cons, List.length_nil, List.length_take, List.length_drop, List.length_replicate]); omega) ?_; intro v_ w_ hs_; have n0_ := Aside0.mk hs_; clear HS hs_; have HS := n0_; clear n0_))
  refine wp_loop_rounds 3 ?_
  rw [rounds_succ]
  go_wp2_with (first | ((with_reducible refine gate_builtin (b := .append) (xs := #[.tmp 242, .tmp 243]) rfl ?_); at_builtin; refine app1 rfl (.tmp 242) (.tmp 243) rfl Tryz.underlying97 info5 _ HS.out rfl rfl (by (try simp only [List.length_append, List.length_cons, List.length_nil, List.length_take, List.length_drop, List.length_replicate]); omega) ?_; intro v_ w_ hs_; have n0_ := Aside0.mk hs_; clear HS hs_; have HS := n0_; clear n0_))
  rw [rounds_succ]
  go_wp2_with (first | ((with_reducible refine gate_builtin (b := .append) (xs := #[.tmp 242, .tmp 243]) rfl ?_); at_builtin; refine app1 rfl (.tmp 242) (.tmp 243) rfl Tryz.underlying97 info5 _ HS.out rfl rfl (by (try simp only [List.length_append, List.length_cons, List.length_nil, List.length_take, List.length_drop, List.length_replicate]); omega) ?_; intro v_ w_ hs_; have n0_ := Aside0.mk hs_; clear HS hs_; have HS := n0_; clear n0_))
  rw [rounds_succ]
  go_wp2_with (first | ((with_reducible refine gate_builtin (b := .append) (xs := #[.tmp 242, .tmp 243]) rfl ?_); at_builtin; refine app1 rfl (.tmp 242) (.tmp 243) rfl Tryz.underlying97 info5 _ HS.out rfl rfl (by (try simp only [List.length_append, List.length_cons, List.length_nil, List.length_take, List.length_drop, List.length_replicate]); omega) ?_; intro v_ w_ hs_; have n0_ := Aside0.mk hs_; clear HS hs_; have HS := n0_; clear n0_))
  refine wp_loop_rounds 1 ?_
  rw [rounds_succ]
  go_wp2_with (fail)
  refine wp_loop_rounds 1 ?_
  rw [rounds_succ]
  go_wp2_with (fail)
  go_ret
  refine ⟨_, rfl, ?_⟩
  have hs := HS.out
  first | exact hs | (simp only [List.nil_append, List.append_assoc, List.cons_append, List.append_nil] at hs ⊢; exact hs) | (simp at hs ⊢; exact hs)
set_option maxHeartbeats 4000000 in
set_option maxRecDepth 100000 in
theorem efgf_10 (neg : Bool) (gs : Nat) (ds : List Int)  (nd : Nat) (hd : ds.length = 32) (hnd : nd ≤ 20) (h1 : nd = 0) (w0 w : World) (v : Value) (h : St w0 (some gs) ds w v []) (hneg : neg = true) :
    Calls Tryz.prog 99 #[v, .bool neg, .slice (some ⟨gs, 0, none⟩) 32 32, .int .i64 (-3), .int .i64 nd, .int .i64 nd, .int .u8 103, .bool true] w fun e w' => ∃ v', e = .returned v' ∧ St w0 (some gs) ds w' v' ([45] ++ [48] ++ (46 :: [48, 48, 48])) := by
  subst hneg
  have HS := Aside0.mk h
  have HP := Aside0.mk hd
  clear h hd
  subst h1
  go_enter Tryz.func99, Tryz.ntmps99
  go_wp2_with (first | ((with_reducible refine gate_builtin (b := .append) (xs := #[.tmp 179, .tmp 180]) rfl ?_); at_builtin; refine app1 rfl (.tmp 179) (.tmp 180) rfl Tryz.underlying97 info5 _ HS.out rfl rfl (by (try simp only [List.length_append, List.length_cons, List.length_nil, List.length_take, List.length_drop, List.length_replicate]); omega) ?_; intro v_ w_ hs_; have n0_ := Aside0.mk hs_; clear HS hs_; have HS := n0_; clear n0_) | ((with_reducible refine gate_builtin (b := .append) (xs := #[.tmp 209, .tmp 210]) rfl ?_); at_builtin; refine app1 rfl (.tmp 209) (.tmp 210) rfl Tryz.underlying97 info5 _ HS.out rfl rfl (by (try simp only [List.length_append, List.length_cons, List.length_nil, List.length_take, List.length_drop, List.length_replicate]); omega) ?_; intro v_ w_ hs_; have n0_ := Aside0.mk hs_; clear HS hs_; have HS := n0_; clear n0_) | ((with_reducible refine gate_builtin (b := .append) (xs := #[.tmp 214, .tmp 215]) rfl ?_); at_builtin; refine app1 rfl (.tmp 214) (.tmp 215) rfl Tryz.underlying97 info5 _ HS.out rfl rfl (by (try simp only [List.length_append, List.length_cons, List.length_nil, List.length_take, List.length_drop, List.length_replicate]); omega) ?_; intro v_ w_ hs_; have n0_ := Aside0.mk hs_; clear HS hs_; have HS := n0_; clear n0_))
  refine wp_loop_rounds 4 ?_
  rw [rounds_succ]
  go_wp2_with (first | ((with_reducible refine gate_builtin (b := .append) (xs := #[.tmp 242, .tmp 243]) rfl ?_); at_builtin; refine app1 rfl (.tmp 242) (.tmp 243) rfl Tryz.underlying97 info5 _ HS.out rfl rfl (by (try simp only [List.length_append, List.length_cons, List.length_nil, List.length_take, List.length_drop, List.length_replicate]); omega) ?_; intro v_ w_ hs_; have n0_ := Aside0.mk hs_; clear HS hs_; have HS := n0_; clear n0_))
  rw [rounds_succ]
  go_wp2_with (first | ((with_reducible refine gate_builtin (b := .append) (xs := #[.tmp 242, .tmp 243]) rfl ?_); at_builtin; refine app1 rfl (.tmp 242) (.tmp 243) rfl Tryz.underlying97 info5 _ HS.out rfl rfl (by (try simp only [List.length_append, List.length_cons, List.length_nil, List.length_take, List.length_drop, List.length_replicate]); omega) ?_; intro v_ w_ hs_; have n0_ := Aside0.mk hs_; clear HS hs_; have HS := n0_; clear n0_))
  rw [rounds_succ]
  go_wp2_with (first | ((with_reducible refine gate_builtin (b := .append) (xs := #[.tmp 242, .tmp 243]) rfl ?_); at_builtin; refine app1 rfl (.tmp 242) (.tmp 243) rfl Tryz.underlying97 info5 _ HS.out rfl rfl (by (try simp only [List.length_append, List.length_cons, List.length_nil, List.length_take, List.length_drop, List.length_replicate]); omega) ?_; intro v_ w_ hs_; have n0_ := Aside0.mk hs_; clear HS hs_; have HS := n0_; clear n0_))
  rw [rounds_succ]
  go_wp2_with (first | ((with_reducible refine gate_builtin (b := .append) (xs := #[.tmp 242, .tmp 243]) rfl ?_); at_builtin; refine app1 rfl (.tmp 242) (.tmp 243) rfl Tryz.underlying97 info5 _ HS.out rfl rfl (by (try simp only [List.length_append, List.length_cons, List.length_nil, List.length_take, List.length_drop, List.length_replicate]); omega) ?_; intro v_ w_ hs_; have n0_ := Aside0.mk hs_; clear HS hs_; have HS := n0_; clear n0_))
  refine wp_loop_rounds 1 ?_
  rw [rounds_succ]
  go_wp2_with (fail)
  refine wp_loop_rounds 1 ?_
  rw [rounds_succ]
  go_wp2_with (fail)
  go_ret
  refine ⟨_, rfl, ?_⟩
  have hs := HS.out
  first | exact hs | (simp only [List.nil_append, List.append_assoc, List.cons_append, List.append_nil] at hs ⊢; exact hs) | (simp at hs ⊢; exact hs)
set_option maxHeartbeats 4000000 in
set_option maxRecDepth 100000 in
theorem efgf_11 (neg : Bool) (gs : Nat) (ds : List Int) (p : Nat) (nd : Nat) (hd : ds.length = 32) (hnd : nd ≤ 20) (h1 : 1 ≤ p) (h2 : p ≤ 6) (h3 : p < nd) (w0 w : World) (v : Value) (h : St w0 (some gs) ds w v []) (hneg : neg = false) :
    Calls Tryz.prog 99 #[v, .bool neg, .slice (some ⟨gs, 0, none⟩) 32 32, .int .i64 (p : Int), .int .i64 nd, .int .i64 nd, .int .u8 103, .bool true] w fun e w' => ∃ v', e = .returned v' ∧ St w0 (some gs) ds w' v' ([] ++ ds.take p ++ (46 :: (ds.drop p).take (nd - p))) := by
  subst hneg
  have HS := Aside0.mk h
  have HP := Aside0.mk hd
  clear h hd
  have h0 : 0 < p := h1
  have hA : decide ((p : Int) - 1 < -4) = false := decide_eq_false (by omega)
  have hB : decide (6 ≤ (p : Int) - 1) = false := decide_eq_false (by omega)
  go_enter Tryz.func99, Tryz.ntmps99
  go_wp2_with (first | ((with_reducible refine gate_builtin (b := .append) (xs := #[.tmp 179, .tmp 180]) rfl ?_); at_builtin; refine app1 rfl (.tmp 179) (.tmp 180) rfl Tryz.underlying97 info5 _ HS.out rfl rfl (by (try simp only [List.length_append, List.length_cons, List.length_nil, List.length_take, List.length_drop, List.length_replicate]); omega) ?_; intro v_ w_ hs_; have n0_ := Aside0.mk hs_; clear HS hs_; have HS := n0_; clear n0_) | ((with_reducible refine gate_builtin (b := .append) (xs := #[.tmp 209, .tmp 210]) rfl ?_); at_builtin; refine app1 rfl (.tmp 209) (.tmp 210) rfl Tryz.underlying97 info5 _ HS.out rfl rfl (by (try simp only [List.length_append, List.length_cons, List.length_nil, List.length_take, List.length_drop, List.length_replicate]); omega) ?_; intro v_ w_ hs_; have n0_ := Aside0.mk hs_; clear HS hs_; have HS := n0_; clear n0_) | ((with_reducible refine gate_builtin (b := .append) (xs := #[.tmp 214, .tmp 215]) rfl ?_); at_builtin; refine app1 rfl (.tmp 214) (.tmp 215) rfl Tryz.underlying97 info5 _ HS.out rfl rfl (by (try simp only [List.length_append, List.length_cons, List.length_nil, List.length_take, List.length_drop, List.length_replicate]); omega) ?_; intro v_ w_ hs_; have n0_ := Aside0.mk hs_; clear HS hs_; have HS := n0_; clear n0_))
  go_loopw [0, 191] (fun v0 v1 w' => ∃ k : Nat, k ≤ p ∧ v1 = .int .i64 k ∧ Aside0 (St w0 (some gs) ds w' v0 (([] : List Int) ++ ds.take k))) (fun _ v1 _ => p - (intOf v1).toNat)
  case atStart => exact ⟨0, Nat.zero_le _, rfl, ⟨by simpa using HS.out⟩⟩
  case round =>
    clear HS
    obtain ⟨k, hk, rfl, HS⟩ := hrel
    by_cases hlt : k < p
    · have hl_ : (([] : List Int)).length ≤ 100 := by (try simp only [List.length_append, List.length_cons, List.length_nil, List.length_take, List.length_drop, List.length_replicate]); omega
      obtain ⟨dk, hdk⟩ : ∃ d, ds[k]? = some d := ⟨ds[k]'(by have := HP.out; omega), List.getElem?_eq_getElem (by have := HP.out; omega)⟩
      have ck := (HS.out.src gs rfl).u8_at (k) dk hdk
      have HDK := Aside0.mk hdk
      clear hdk
      go_wp2_with (first | ((with_reducible refine gate_builtin (b := .append) (xs := #[.tmp 195, .tmp 197]) rfl ?_); at_builtin; refine app1 rfl (.tmp 195) (.tmp 197) rfl Tryz.underlying97 info5 _ HS.out rfl rfl (by (try simp only [List.length_append, List.length_cons, List.length_nil, List.length_take, List.length_drop, List.length_replicate] at hl_ ⊢); omega) ?_; intro v_ w_ hs_; have n0_ := Aside0.mk hs_; clear HS hs_; have HS := n0_; clear n0_))
      go_roundw
      case rel => exact ⟨k + 1, by omega, by go_num, ⟨by have hs := HS.out; rw [List.append_assoc] at hs; rw [show ds.take (k + 1) = ds.take k ++ [dk] from by rw [List.take_add_one, HDK.out]; rfl]; exact hs⟩⟩
      case measure => simp [intOf]; omega
    · have hke : p = k := by omega
      subst hke
      go_wp2_with (fail)
      refine wp_loop_rounds 1 ?_
      rw [rounds_succ]
      go_wp2_with (first | ((with_reducible refine gate_builtin (b := .append) (xs := #[.tmp 179, .tmp 180]) rfl ?_); at_builtin; refine app1 rfl (.tmp 179) (.tmp 180) rfl Tryz.underlying97 info5 _ HS.out rfl rfl (by (try simp only [List.length_append, List.length_cons, List.length_nil, List.length_take, List.length_drop, List.length_replicate]); omega) ?_; intro v_ w_ hs_; have n0_ := Aside0.mk hs_; clear HS hs_; have HS := n0_; clear n0_) | ((with_reducible refine gate_builtin (b := .append) (xs := #[.tmp 209, .tmp 210]) rfl ?_); at_builtin; refine app1 rfl (.tmp 209) (.tmp 210) rfl Tryz.underlying97 info5 _ HS.out rfl rfl (by (try simp only [List.length_append, List.length_cons, List.length_nil, List.length_take, List.length_drop, List.length_replicate]); omega) ?_; intro v_ w_ hs_; have n0_ := Aside0.mk hs_; clear HS hs_; have HS := n0_; clear n0_) | ((with_reducible refine gate_builtin (b := .append) (xs := #[.tmp 214, .tmp 215]) rfl ?_); at_builtin; refine app1 rfl (.tmp 214) (.tmp 215) rfl Tryz.underlying97 info5 _ HS.out rfl rfl (by (try simp only [List.length_append, List.length_cons, List.length_nil, List.length_take, List.length_drop, List.length_replicate]); omega) ?_; intro v_ w_ hs_; have n0_ := Aside0.mk hs_; clear HS hs_; have HS := n0_; clear n0_))
      refine wp_loop_rounds 1 ?_
      rw [rounds_succ]
      go_wp2_with (fail)
      go_loopw [0, 247] (fun v0 v1 w' => ∃ k : Nat, k ≤ (nd - p) ∧ v1 = .int .i64 k ∧ Aside0 (St w0 (some gs) ds w' v0 (([] : List Int) ++ ds.take p ++ [46] ++ (ds.drop p).take k))) (fun _ v1 _ => (nd - p) - (intOf v1).toNat)
      case atStart => exact ⟨0, Nat.zero_le _, rfl, ⟨by simpa using HS.out⟩⟩
      case round =>
        clear HS
        obtain ⟨k, hk, rfl, HS⟩ := hrel
        by_cases hlt : k < (nd - p)
        · have hl_ : (([] : List Int) ++ ds.take p ++ [46]).length ≤ 100 := by (try simp only [List.length_append, List.length_cons, List.length_nil, List.length_take, List.length_drop, List.length_replicate]); omega
          obtain ⟨dk, hdk⟩ : ∃ d, ds[p + k]? = some d := ⟨ds[p + k]'(by have := HP.out; omega), List.getElem?_eq_getElem (by have := HP.out; omega)⟩
          have ck := (HS.out.src gs rfl).u8_at (p + k) dk hdk
          have HDK := Aside0.mk hdk
          clear hdk
          go_wp2_with (first | ((with_reducible refine gate_builtin (b := .append) (xs := #[.tmp 250, .tmp 257]) rfl ?_); at_builtin; refine app1 rfl (.tmp 250) (.tmp 257) rfl Tryz.underlying97 info5 _ HS.out rfl rfl (by (try simp only [List.length_append, List.length_cons, List.length_nil, List.length_take, List.length_drop, List.length_replicate] at hl_ ⊢); omega) ?_; intro v_ w_ hs_; have n0_ := Aside0.mk hs_; clear HS hs_; have HS := n0_; clear n0_))
          go_roundw
          case rel => exact ⟨k + 1, by omega, by go_num, ⟨by have hs := HS.out; rw [List.append_assoc] at hs; rw [show (ds.drop p).take (k + 1) = (ds.drop p).take k ++ [dk] from by rw [List.take_add_one, List.getElem?_drop, HDK.out]; rfl]; exact hs⟩⟩
          case measure => simp [intOf]; omega
        · have hke : k = (nd - p) := by omega
          subst hke
          go_wp2_with (fail)
          refine wp_loop_rounds 1 ?_
          rw [rounds_succ]
          go_wp2_with (fail)
          go_ret
          refine ⟨_, rfl, ?_⟩
          have hs := HS.out
          first | exact hs | (simp only [List.nil_append, List.append_assoc, List.cons_append, List.append_nil] at hs ⊢; exact hs) | (simp at hs ⊢; exact hs)
set_option maxHeartbeats 4000000 in
set_option maxRecDepth 100000 in
theorem efgf_12 (neg : Bool) (gs : Nat) (ds : List Int) (p : Nat) (nd : Nat) (hd : ds.length = 32) (hnd : nd ≤ 20) (h1 : 1 ≤ p) (h2 : p ≤ 6) (h3 : p = nd) (w0 w : World) (v : Value) (h : St w0 (some gs) ds w v []) (hneg : neg = false) :
    Calls Tryz.prog 99 #[v, .bool neg, .slice (some ⟨gs, 0, none⟩) 32 32, .int .i64 (p : Int), .int .i64 nd, .int .i64 nd, .int .u8 103, .bool true] w fun e w' => ∃ v', e = .returned v' ∧ St w0 (some gs) ds w' v' ([] ++ ds.take p) := by
  subst hneg
  have HS := Aside0.mk h
  have HP := Aside0.mk hd
  clear h hd
  have h0 : 0 < p := h1
  have hA : decide ((p : Int) - 1 < -4) = false := decide_eq_false (by omega)
  have hB : decide (6 ≤ (p : Int) - 1) = false := decide_eq_false (by omega)
  subst h3
  go_enter Tryz.func99, Tryz.ntmps99
  go_wp2_with (first | ((with_reducible refine gate_builtin (b := .append) (xs := #[.tmp 179, .tmp 180]) rfl ?_); at_builtin; refine app1 rfl (.tmp 179) (.tmp 180) rfl Tryz.underlying97 info5 _ HS.out rfl rfl (by (try simp only [List.length_append, List.length_cons, List.length_nil, List.length_take, List.length_drop, List.length_replicate]); omega) ?_; intro v_ w_ hs_; have n0_ := Aside0.mk hs_; clear HS hs_; have HS := n0_; clear n0_) | ((with_reducible refine gate_builtin (b := .append) (xs := #[.tmp 209, .tmp 210]) rfl ?_); at_builtin; refine app1 rfl (.tmp 209) (.tmp 210) rfl Tryz.underlying97 info5 _ HS.out rfl rfl (by (try simp only [List.length_append, List.length_cons, List.length_nil, List.length_take, List.length_drop, List.length_replicate]); omega) ?_; intro v_ w_ hs_; have n0_ := Aside0.mk hs_; clear HS hs_; have HS := n0_; clear n0_) | ((with_reducible refine gate_builtin (b := .append) (xs := #[.tmp 214, .tmp 215]) rfl ?_); at_builtin; refine app1 rfl (.tmp 214) (.tmp 215) rfl Tryz.underlying97 info5 _ HS.out rfl rfl (by (try simp only [List.length_append, List.length_cons, List.length_nil, List.length_take, List.length_drop, List.length_replicate]); omega) ?_; intro v_ w_ hs_; have n0_ := Aside0.mk hs_; clear HS hs_; have HS := n0_; clear n0_))
  go_loopw [0, 191] (fun v0 v1 w' => ∃ k : Nat, k ≤ p ∧ v1 = .int .i64 k ∧ Aside0 (St w0 (some gs) ds w' v0 (([] : List Int) ++ ds.take k))) (fun _ v1 _ => p - (intOf v1).toNat)
  case atStart => exact ⟨0, Nat.zero_le _, rfl, ⟨by simpa using HS.out⟩⟩
  case round =>
    clear HS
    obtain ⟨k, hk, rfl, HS⟩ := hrel
    by_cases hlt : k < p
    · have hl_ : (([] : List Int)).length ≤ 100 := by (try simp only [List.length_append, List.length_cons, List.length_nil, List.length_take, List.length_drop, List.length_replicate]); omega
      obtain ⟨dk, hdk⟩ : ∃ d, ds[k]? = some d := ⟨ds[k]'(by have := HP.out; omega), List.getElem?_eq_getElem (by have := HP.out; omega)⟩
      have ck := (HS.out.src gs rfl).u8_at (k) dk hdk
      have HDK := Aside0.mk hdk
      clear hdk
      go_wp2_with (first | ((with_reducible refine gate_builtin (b := .append) (xs := #[.tmp 195, .tmp 197]) rfl ?_); at_builtin; refine app1 rfl (.tmp 195) (.tmp 197) rfl Tryz.underlying97 info5 _ HS.out rfl rfl (by (try simp only [List.length_append, List.length_cons, List.length_nil, List.length_take, List.length_drop, List.length_replicate] at hl_ ⊢); omega) ?_; intro v_ w_ hs_; have n0_ := Aside0.mk hs_; clear HS hs_; have HS := n0_; clear n0_))
      go_roundw
      case rel => exact ⟨k + 1, by omega, by go_num, ⟨by have hs := HS.out; rw [List.append_assoc] at hs; rw [show ds.take (k + 1) = ds.take k ++ [dk] from by rw [List.take_add_one, HDK.out]; rfl]; exact hs⟩⟩
      case measure => simp [intOf]; omega
    · have hke : p = k := by omega
      subst hke
      go_wp2_with (fail)
      refine wp_loop_rounds 1 ?_
      rw [rounds_succ]
      go_wp2_with (first | ((with_reducible refine gate_builtin (b := .append) (xs := #[.tmp 179, .tmp 180]) rfl ?_); at_builtin; refine app1 rfl (.tmp 179) (.tmp 180) rfl Tryz.underlying97 info5 _ HS.out rfl rfl (by (try simp only [List.length_append, List.length_cons, List.length_nil, List.length_take, List.length_drop, List.length_replicate]); omega) ?_; intro v_ w_ hs_; have n0_ := Aside0.mk hs_; clear HS hs_; have HS := n0_; clear n0_) | ((with_reducible refine gate_builtin (b := .append) (xs := #[.tmp 209, .tmp 210]) rfl ?_); at_builtin; refine app1 rfl (.tmp 209) (.tmp 210) rfl Tryz.underlying97 info5 _ HS.out rfl rfl (by (try simp only [List.length_append, List.length_cons, List.length_nil, List.length_take, List.length_drop, List.length_replicate]); omega) ?_; intro v_ w_ hs_; have n0_ := Aside0.mk hs_; clear HS hs_; have HS := n0_; clear n0_) | ((with_reducible refine gate_builtin (b := .append) (xs := #[.tmp 214, .tmp 215]) rfl ?_); at_builtin; refine app1 rfl (.tmp 214) (.tmp 215) rfl Tryz.underlying97 info5 _ HS.out rfl rfl (by (try simp only [List.length_append, List.length_cons, List.length_nil, List.length_take, List.length_drop, List.length_replicate]); omega) ?_; intro v_ w_ hs_; have n0_ := Aside0.mk hs_; clear HS hs_; have HS := n0_; clear n0_))
      go_ret
      refine ⟨_, rfl, ?_⟩
      have hs := HS.out
      first | exact hs | (simp only [List.nil_append, List.append_assoc, List.cons_append, List.append_nil] at hs ⊢; exact hs) | (simp at hs ⊢; exact hs)
set_option maxHeartbeats 4000000 in
set_option maxRecDepth 100000 in
theorem efgf_13 (neg : Bool) (gs : Nat) (ds : List Int) (p : Nat) (nd : Nat) (hd : ds.length = 32) (hnd : nd ≤ 20) (h1 : 1 ≤ p) (h2 : p ≤ 6) (h3 : nd < p) (w0 w : World) (v : Value) (h : St w0 (some gs) ds w v []) (hneg : neg = false) :
    Calls Tryz.prog 99 #[v, .bool neg, .slice (some ⟨gs, 0, none⟩) 32 32, .int .i64 (p : Int), .int .i64 nd, .int .i64 nd, .int .u8 103, .bool true] w fun e w' => ∃ v', e = .returned v' ∧ St w0 (some gs) ds w' v' ([] ++ ds.take nd ++ List.replicate (p - nd) 48) := by
  subst hneg
  have HS := Aside0.mk h
  have HP := Aside0.mk hd
  clear h hd
  have h0 : 0 < p := h1
  have hA : decide ((p : Int) - 1 < -4) = false := decide_eq_false (by omega)
  have hB : decide (6 ≤ (p : Int) - 1) = false := decide_eq_false (by omega)
  have hC : decide (p < nd) = false := decide_eq_false (by omega)
  go_enter Tryz.func99, Tryz.ntmps99
  go_wp2_with (first | ((with_reducible refine gate_builtin (b := .append) (xs := #[.tmp 179, .tmp 180]) rfl ?_); at_builtin; refine app1 rfl (.tmp 179) (.tmp 180) rfl Tryz.underlying97 info5 _ HS.out rfl rfl (by (try simp only [List.length_append, List.length_cons, List.length_nil, List.length_take, List.length_drop, List.length_replicate]); omega) ?_; intro v_ w_ hs_; have n0_ := Aside0.mk hs_; clear HS hs_; have HS := n0_; clear n0_) | ((with_reducible refine gate_builtin (b := .append) (xs := #[.tmp 209, .tmp 210]) rfl ?_); at_builtin; refine app1 rfl (.tmp 209) (.tmp 210) rfl Tryz.underlying97 info5 _ HS.out rfl rfl (by (try simp only [List.length_append, List.length_cons, List.length_nil, List.length_take, List.length_drop, List.length_replicate]); omega) ?_; intro v_ w_ hs_; have n0_ := Aside0.mk hs_; clear HS hs_; have HS := n0_; clear n0_) | ((with_reducible refine gate_builtin (b := .append) (xs := #[.tmp 214, .tmp 215]) rfl ?_); at_builtin; refine app1 rfl (.tmp 214) (.tmp 215) rfl Tryz.underlying97 info5 _ HS.out rfl rfl (by (try simp only [List.length_append, List.length_cons, List.length_nil, List.length_take, List.length_drop, List.length_replicate]); omega) ?_; intro v_ w_ hs_; have n0_ := Aside0.mk hs_; clear HS hs_; have HS := n0_; clear n0_))
  go_loopw [0, 191] (fun v0 v1 w' => ∃ k : Nat, k ≤ nd ∧ v1 = .int .i64 k ∧ Aside0 (St w0 (some gs) ds w' v0 (([] : List Int) ++ ds.take k))) (fun _ v1 _ => nd - (intOf v1).toNat)
  case atStart => exact ⟨0, Nat.zero_le _, rfl, ⟨by simpa using HS.out⟩⟩
  case round =>
    clear HS
    obtain ⟨k, hk, rfl, HS⟩ := hrel
    by_cases hlt : k < nd
    · have hl_ : (([] : List Int)).length ≤ 100 := by (try simp only [List.length_append, List.length_cons, List.length_nil, List.length_take, List.length_drop, List.length_replicate]); omega
      obtain ⟨dk, hdk⟩ : ∃ d, ds[k]? = some d := ⟨ds[k]'(by have := HP.out; omega), List.getElem?_eq_getElem (by have := HP.out; omega)⟩
      have ck := (HS.out.src gs rfl).u8_at (k) dk hdk
      have HDK := Aside0.mk hdk
      clear hdk
      go_wp2_with (first | ((with_reducible refine gate_builtin (b := .append) (xs := #[.tmp 195, .tmp 197]) rfl ?_); at_builtin; refine app1 rfl (.tmp 195) (.tmp 197) rfl Tryz.underlying97 info5 _ HS.out rfl rfl (by (try simp only [List.length_append, List.length_cons, List.length_nil, List.length_take, List.length_drop, List.length_replicate] at hl_ ⊢); omega) ?_; intro v_ w_ hs_; have n0_ := Aside0.mk hs_; clear HS hs_; have HS := n0_; clear n0_))
      go_roundw
      case rel => exact ⟨k + 1, by omega, by go_num, ⟨by have hs := HS.out; rw [List.append_assoc] at hs; rw [show ds.take (k + 1) = ds.take k ++ [dk] from by rw [List.take_add_one, HDK.out]; rfl]; exact hs⟩⟩
      case measure => simp [intOf]; omega
    · have hke : nd = k := by omega
      subst hke
      go_wp2_with (fail)
      go_loopw [0, 203] (fun v0 v1 w' => ∃ k : Nat, k ≤ (p - nd) ∧ v1 = .int .i64 k ∧ Aside0 (St w0 (some gs) ds w' v0 (([] : List Int) ++ ds.take nd ++ List.replicate k 48))) (fun _ v1 _ => (p - nd) - (intOf v1).toNat)
      case atStart => exact ⟨0, Nat.zero_le _, rfl, ⟨by simpa using HS.out⟩⟩
      case round =>
        clear HS
        obtain ⟨k, hk, rfl, HS⟩ := hrel
        by_cases hlt : k < (p - nd)
        · have hl_ : (([] : List Int) ++ ds.take nd).length ≤ 100 := by (try simp only [List.length_append, List.length_cons, List.length_nil, List.length_take, List.length_drop, List.length_replicate]); omega
          go_wp2_with (first | ((with_reducible refine gate_builtin (b := .append) (xs := #[.tmp 205, .tmp 206]) rfl ?_); at_builtin; refine app1 rfl (.tmp 205) (.tmp 206) rfl Tryz.underlying97 info5 _ HS.out rfl rfl (by (try simp only [List.length_append, List.length_cons, List.length_nil, List.length_take, List.length_drop, List.length_replicate] at hl_ ⊢); omega) ?_; intro v_ w_ hs_; have n0_ := Aside0.mk hs_; clear HS hs_; have HS := n0_; clear n0_))
          go_roundw
          case rel => exact ⟨k + 1, by omega, by go_num, ⟨by have hs := HS.out; rw [List.append_assoc] at hs; rw [show List.replicate (k + 1) (48 : Int) = List.replicate k 48 ++ [48] from List.replicate_succ']; exact hs⟩⟩
          case measure => simp [intOf]; omega
        · have hke : k = (p - nd) := by omega
          subst hke
          go_wp2_with (fail)
          go_ret
          refine ⟨_, rfl, ?_⟩
          have hs := HS.out
          first | exact hs | (simp only [List.nil_append, List.append_assoc, List.cons_append, List.append_nil] at hs ⊢; exact hs) | (simp at hs ⊢; exact hs)
set_option maxHeartbeats 4000000 in
set_option maxRecDepth 100000 in
theorem efgf_14 (neg : Bool) (gs : Nat) (ds : List Int)  (nd : Nat) (hd : ds.length = 32) (hnd : nd ≤ 20) (h1 : nd = 0) (w0 w : World) (v : Value) (h : St w0 (some gs) ds w v []) (hneg : neg = false) :
    Calls Tryz.prog 99 #[v, .bool neg, .slice (some ⟨gs, 0, none⟩) 32 32, .int .i64 0, .int .i64 nd, .int .i64 nd, .int .u8 103, .bool true] w fun e w' => ∃ v', e = .returned v' ∧ St w0 (some gs) ds w' v' ([] ++ [48]) := by
  subst hneg
  have HS := Aside0.mk h
  have HP := Aside0.mk hd
  clear h hd
  subst h1
  go_enter Tryz.func99, Tryz.ntmps99
  go_wp2_with (first | ((with_reducible refine gate_builtin (b := .append) (xs := #[.tmp 179, .tmp 180]) rfl ?_); at_builtin; refine app1 rfl (.tmp 179) (.tmp 180) rfl Tryz.underlying97 info5 _ HS.out rfl rfl (by (try simp only [List.length_append, List.length_cons, List.length_nil, List.length_take, List.length_drop, List.length_replicate]); omega) ?_; intro v_ w_ hs_; have n0_ := Aside0.mk hs_; clear HS hs_; have HS := n0_; clear n0_) | ((with_reducible refine gate_builtin (b := .append) (xs := #[.tmp 209, .tmp 210]) rfl ?_); at_builtin; refine app1 rfl (.tmp 209) (.tmp 210) rfl Tryz.underlying97 info5 _ HS.out rfl rfl (by (try simp only [List.length_append, List.length_cons, List.length_nil, List.length_take, List.length_drop, List.length_replicate]); omega) ?_; intro v_ w_ hs_; have n0_ := Aside0.mk hs_; clear HS hs_; have HS := n0_; clear n0_) | ((with_reducible refine gate_builtin (b := .append) (xs := #[.tmp 214, .tmp 215]) rfl ?_); at_builtin; refine app1 rfl (.tmp 214) (.tmp 215) rfl Tryz.underlying97 info5 _ HS.out rfl rfl (by (try simp only [List.length_append, List.length_cons, List.length_nil, List.length_take, List.length_drop, List.length_replicate]); omega) ?_; intro v_ w_ hs_; have n0_ := Aside0.mk hs_; clear HS hs_; have HS := n0_; clear n0_))
  go_ret
  refine ⟨_, rfl, ?_⟩
  have hs := HS.out
  first | exact hs | (simp only [List.nil_append, List.append_assoc, List.cons_append, List.append_nil] at hs ⊢; exact hs) | (simp at hs ⊢; exact hs)
set_option maxHeartbeats 4000000 in
set_option maxRecDepth 100000 in
theorem efgf_15 (neg : Bool) (gs : Nat) (ds : List Int)  (nd : Nat) (hd : ds.length = 32) (hnd : nd ≤ 20) (h1 : 0 < nd) (w0 w : World) (v : Value) (h : St w0 (some gs) ds w v []) (hneg : neg = false) :
    Calls Tryz.prog 99 #[v, .bool neg, .slice (some ⟨gs, 0, none⟩) 32 32, .int .i64 0, .int .i64 nd, .int .i64 nd, .int .u8 103, .bool true] w fun e w' => ∃ v', e = .returned v' ∧ St w0 (some gs) ds w' v' ([] ++ [48] ++ (46 :: ([] ++ ds.take nd))) := by
  subst hneg
  have HS := Aside0.mk h
  have HP := Aside0.mk hd
  clear h hd
  have h6 : (0 : Int) < (nd : Int) := by omega
  have h7 : (0 : Int) < (nd : Int) + 0 := by omega
  have h8 : ¬ ((nd : Int) + 0 < 0) := by omega
  go_enter Tryz.func99, Tryz.ntmps99
  go_wp2_with (first | ((with_reducible refine gate_builtin (b := .append) (xs := #[.tmp 179, .tmp 180]) rfl ?_); at_builtin; refine app1 rfl (.tmp 179) (.tmp 180) rfl Tryz.underlying97 info5 _ HS.out rfl rfl (by (try simp only [List.length_append, List.length_cons, List.length_nil, List.length_take, List.length_drop, List.length_replicate]); omega) ?_; intro v_ w_ hs_; have n0_ := Aside0.mk hs_; clear HS hs_; have HS := n0_; clear n0_) | ((with_reducible refine gate_builtin (b := .append) (xs := #[.tmp 209, .tmp 210]) rfl ?_); at_builtin; refine app1 rfl (.tmp 209) (.tmp 210) rfl Tryz.underlying97 info5 _ HS.out rfl rfl (by (try simp only [List.length_append, List.length_cons, List.length_nil, List.length_take, List.length_drop, List.length_replicate]); omega) ?_; intro v_ w_ hs_; have n0_ := Aside0.mk hs_; clear HS hs_; have HS := n0_; clear n0_) | ((with_reducible refine gate_builtin (b := .append) (xs := #[.tmp 214, .tmp 215]) rfl ?_); at_builtin; refine app1 rfl (.tmp 214) (.tmp 215) rfl Tryz.underlying97 info5 _ HS.out rfl rfl (by (try simp only [List.length_append, List.length_cons, List.length_nil, List.length_take, List.length_drop, List.length_replicate]); omega) ?_; intro v_ w_ hs_; have n0_ := Aside0.mk hs_; clear HS hs_; have HS := n0_; clear n0_))
  refine wp_loop_rounds 1 ?_
  rw [rounds_succ]
  go_wp2_with (first | ((with_reducible refine gate_builtin (b := .append) (xs := #[.tmp 242, .tmp 243]) rfl ?_); at_builtin; refine app1 rfl (.tmp 242) (.tmp 243) rfl Tryz.underlying97 info5 _ HS.out rfl rfl (by (try simp only [List.length_append, List.length_cons, List.length_nil, List.length_take, List.length_drop, List.length_replicate]); omega) ?_; intro v_ w_ hs_; have n0_ := Aside0.mk hs_; clear HS hs_; have HS := n0_; clear n0_))
  go_loopw [0, 247] (fun v0 v1 w' => ∃ k : Nat, k ≤ nd ∧ v1 = .int .i64 k ∧ Aside0 (St w0 (some gs) ds w' v0 (([] : List Int) ++ [48] ++ [46] ++ ds.take k))) (fun _ v1 _ => nd - (intOf v1).toNat)
  case atStart => exact ⟨0, Nat.zero_le _, rfl, ⟨by simpa using HS.out⟩⟩
  case round =>
    clear HS
    obtain ⟨k, hk, rfl, HS⟩ := hrel
    by_cases hlt : k < nd
    · have hl_ : (([] : List Int) ++ [48] ++ [46]).length ≤ 100 := by (try simp only [List.length_append, List.length_cons, List.length_nil, List.length_take, List.length_drop, List.length_replicate]); omega
      obtain ⟨dk, hdk⟩ : ∃ d, ds[k]? = some d := ⟨ds[k]'(by have := HP.out; omega), List.getElem?_eq_getElem (by have := HP.out; omega)⟩
      have ck := (HS.out.src gs rfl).u8_at (k) dk hdk
      have HDK := Aside0.mk hdk
      clear hdk
      go_wp2_with (first | ((with_reducible refine gate_builtin (b := .append) (xs := #[.tmp 250, .tmp 257]) rfl ?_); at_builtin; refine app1 rfl (.tmp 250) (.tmp 257) rfl Tryz.underlying97 info5 _ HS.out rfl rfl (by (try simp only [List.length_append, List.length_cons, List.length_nil, List.length_take, List.length_drop, List.length_replicate] at hl_ ⊢); omega) ?_; intro v_ w_ hs_; have n0_ := Aside0.mk hs_; clear HS hs_; have HS := n0_; clear n0_))
      go_roundw
      case rel => exact ⟨k + 1, by omega, by go_num, ⟨by have hs := HS.out; rw [List.append_assoc] at hs; rw [show ds.take (k + 1) = ds.take k ++ [dk] from by rw [List.take_add_one, HDK.out]; rfl]; exact hs⟩⟩
      case measure => simp [intOf]; omega
    · have hke : nd = k := by omega
      subst hke
      go_wp2_with (fail)
      refine wp_loop_rounds 1 ?_
      rw [rounds_succ]
      go_wp2_with (fail)
      go_ret
      refine ⟨_, rfl, ?_⟩
      have hs := HS.out
      first | exact hs | (simp only [List.nil_append, List.append_assoc, List.cons_append, List.append_nil] at hs ⊢; exact hs) | (simp at hs ⊢; exact hs)
set_option maxHeartbeats 4000000 in
set_option maxRecDepth 100000 in
theorem efgf_16 (neg : Bool) (gs : Nat) (ds : List Int)  (nd : Nat) (hd : ds.length = 32) (hnd : nd ≤ 20) (h1 : 0 < nd) (w0 w : World) (v : Value) (h : St w0 (some gs) ds w v []) (hneg : neg = false) :
    Calls Tryz.prog 99 #[v, .bool neg, .slice (some ⟨gs, 0, none⟩) 32 32, .int .i64 (-1), .int .i64 nd, .int .i64 nd, .int .u8 103, .bool true] w fun e w' => ∃ v', e = .returned v' ∧ St w0 (some gs) ds w' v' ([] ++ [48] ++ (46 :: ([48] ++ ds.take nd))) := by
  subst hneg
  have HS := Aside0.mk h
  have HP := Aside0.mk hd
  clear h hd
  have h6 : (0 : Int) < (nd : Int) := by omega
  have h7 : (1 : Int) < (nd : Int) + 1 := by omega
  have h8 : ¬ ((nd : Int) + 1 < 1) := by omega
  go_enter Tryz.func99, Tryz.ntmps99
  go_wp2_with (first | ((with_reducible refine gate_builtin (b := .append) (xs := #[.tmp 179, .tmp 180]) rfl ?_); at_builtin; refine app1 rfl (.tmp 179) (.tmp 180) rfl Tryz.underlying97 info5 _ HS.out rfl rfl (by (try simp only [List.length_append, List.length_cons, List.length_nil, List.length_take, List.length_drop, List.length_replicate]); omega) ?_; intro v_ w_ hs_; have n0_ := Aside0.mk hs_; clear HS hs_; have HS := n0_; clear n0_) | ((with_reducible refine gate_builtin (b := .append) (xs := #[.tmp 209, .tmp 210]) rfl ?_); at_builtin; refine app1 rfl (.tmp 209) (.tmp 210) rfl Tryz.underlying97 info5 _ HS.out rfl rfl (by (try simp only [List.length_append, List.length_cons, List.length_nil, List.length_take, List.length_drop, List.length_replicate]); omega) ?_; intro v_ w_ hs_; have n0_ := Aside0.mk hs_; clear HS hs_; have HS := n0_; clear n0_) | ((with_reducible refine gate_builtin (b := .append) (xs := #[.tmp 214, .tmp 215]) rfl ?_); at_builtin; refine app1 rfl (.tmp 214) (.tmp 215) rfl Tryz.underlying97 info5 _ HS.out rfl rfl (by (try simp only [List.length_append, List.length_cons, List.length_nil, List.length_take, List.length_drop, List.length_replicate]); omega) ?_; intro v_ w_ hs_; have n0_ := Aside0.mk hs_; clear HS hs_; have HS := n0_; clear n0_))
  refine wp_loop_rounds 2 ?_
  rw [rounds_succ]
  go_wp2_with (first | ((with_reducible refine gate_builtin (b := .append) (xs := #[.tmp 242, .tmp 243]) rfl ?_); at_builtin; refine app1 rfl (.tmp 242) (.tmp 243) rfl Tryz.underlying97 info5 _ HS.out rfl rfl (by (try simp only [List.length_append, List.length_cons, List.length_nil, List.length_take, List.length_drop, List.length_replicate]); omega) ?_; intro v_ w_ hs_; have n0_ := Aside0.mk hs_; clear HS hs_; have HS := n0_; clear n0_))
  rw [rounds_succ]
  go_wp2_with (first | ((with_reducible refine gate_builtin (b := .append) (xs := #[.tmp 242, .tmp 243]) rfl ?_); at_builtin; refine app1 rfl (.tmp 242) (.tmp 243) rfl Tryz.underlying97 info5 _ HS.out rfl rfl (by (try simp only [List.length_append, List.length_cons, List.length_nil, List.length_take, List.length_drop, List.length_replicate]); omega) ?_; intro v_ w_ hs_; have n0_ := Aside0.mk hs_; clear HS hs_; have HS := n0_; clear n0_))
  go_loopw [0, 247] (fun v0 v1 w' => ∃ k : Nat, k ≤ nd ∧ v1 = .int .i64 k ∧ Aside0 (St w0 (some gs) ds w' v0 (([] : List Int) ++ [48] ++ [46] ++ [48] ++ ds.take k))) (fun _ v1 _ => nd - (intOf v1).toNat)
  case atStart => exact ⟨0, Nat.zero_le _, rfl, ⟨by simpa using HS.out⟩⟩
  case round =>
    clear HS
    obtain ⟨k, hk, rfl, HS⟩ := hrel
    by_cases hlt : k < nd
    · have hl_ : (([] : List Int) ++ [48] ++ [46] ++ [48]).length ≤ 100 := by (try simp only [List.length_append, List.length_cons, List.length_nil, List.length_take, List.length_drop, List.length_replicate]); omega
      obtain ⟨dk, hdk⟩ : ∃ d, ds[k]? = some d := ⟨ds[k]'(by have := HP.out; omega), List.getElem?_eq_getElem (by have := HP.out; omega)⟩
      have ck := (HS.out.src gs rfl).u8_at (k) dk hdk
      have HDK := Aside0.mk hdk
      clear hdk
      go_wp2_with (first | ((with_reducible refine gate_builtin (b := .append) (xs := #[.tmp 250, .tmp 257]) rfl ?_); at_builtin; refine app1 rfl (.tmp 250) (.tmp 257) rfl Tryz.underlying97 info5 _ HS.out rfl rfl (by (try simp only [List.length_append, List.length_cons, List.length_nil, List.length_take, List.length_drop, List.length_replicate] at hl_ ⊢); omega) ?_; intro v_ w_ hs_; have n0_ := Aside0.mk hs_; clear HS hs_; have HS := n0_; clear n0_))
      go_roundw
      case rel => exact ⟨k + 1, by omega, by go_num, ⟨by have hs := HS.out; rw [List.append_assoc] at hs; rw [show ds.take (k + 1) = ds.take k ++ [dk] from by rw [List.take_add_one, HDK.out]; rfl]; exact hs⟩⟩
      case measure => simp [intOf]; omega
    · have hke : nd = k := by omega
      subst hke
      go_wp2_with (fail)
      refine wp_loop_rounds 1 ?_
      rw [rounds_succ]
      go_wp2_with (fail)
      go_ret
      refine ⟨_, rfl, ?_⟩
      have hs := HS.out
      first | exact hs | (simp only [List.nil_append, List.append_assoc, List.cons_append, List.append_nil] at hs ⊢; exact hs) | (simp at hs ⊢; exact hs)
set_option maxHeartbeats 4000000 in
set_option maxRecDepth 100000 in
theorem efgf_17 (neg : Bool) (gs : Nat) (ds : List Int)  (nd : Nat) (hd : ds.length = 32) (hnd : nd ≤ 20) (h1 : 0 < nd) (w0 w : World) (v : Value) (h : St w0 (some gs) ds w v []) (hneg : neg = false) :
    Calls Tryz.prog 99 #[v, .bool neg, .slice (some ⟨gs, 0, none⟩) 32 32, .int .i64 (-2), .int .i64 nd, .int .i64 nd, .int .u8 103, .bool true] w fun e w' => ∃ v', e = .returned v' ∧ St w0 (some gs) ds w' v' ([] ++ [48] ++ (46 :: ([48, 48] ++ ds.take nd))) := by
  subst hneg
  have HS := Aside0.mk h
  have HP := Aside0.mk hd
  clear h hd
  have h6 : (0 : Int) < (nd : Int) := by omega
  have h7 : (2 : Int) < (nd : Int) + 2 := by omega
  have h8 : ¬ ((nd : Int) + 2 < 2) := by omega
  go_enter Tryz.func99, Tryz.ntmps99
  go_wp2_with (first | ((with_reducible refine gate_builtin (b := .append) (xs := #[.tmp 179, .tmp 180]) rfl ?_); at_builtin; refine app1 rfl (.tmp 179) (.tmp 180) rfl Tryz.underlying97 info5 _ HS.out rfl rfl (by (try simp only [List.length_append, List.length_cons, List.length_nil, List.length_take, List.length_drop, List.length_replicate]); omega) ?_; intro v_ w_ hs_; have n0_ := Aside0.mk hs_; clear HS hs_; have HS := n0_; clear n0_) | ((with_reducible refine gate_builtin (b := .append) (xs := #[.tmp 209, .tmp 210]) rfl ?_); at_builtin; refine app1 rfl (.tmp 209) (.tmp 210) rfl Tryz.underlying97 info5 _ HS.out rfl rfl (by (try simp only [List.length_append, List.length_cons, List.length_nil, List.length_take, List.length_drop, List.length_replicate]); omega) ?_; intro v_ w_ hs_; have n0_ := Aside0.mk hs_; clear HS hs_; have HS := n0_; clear n0_) | ((with_reducible refine gate_builtin (b := .append) (xs := #[.tmp 214, .tmp 215]) rfl ?_); at_builtin; refine app1 rfl (.tmp 214) (.tmp 215) rfl Tryz.underlying97 info5 _ HS.out rfl rfl (by (try simp only [List.length_append, List.length_cons, List.length_nil, List.length_take, List.length_drop, List.length_replicate]); omega) ?_; intro v_ w_ hs_; have n0_ := Aside0.mk hs_; clear HS hs_; have HS := n0_; clear n0_))
  refine wp_loop_rounds 3 ?_
  rw [rounds_succ]
  go_wp2_with (first | ((with_reducible refine gate_builtin (b := .append) (xs := #[.tmp 242, .tmp 243]) rfl ?_); at_builtin; refine app1 rfl (.tmp 242) (.tmp 243) rfl Tryz.underlying97 info5 _ HS.out rfl rfl (by (try simp only [List.length_append, List.length_cons, List.length_nil, List.length_take, List.length_drop, List.length_replicate]); omega) ?_; intro v_ w_ hs_; have n0_ := Aside0.mk hs_; clear HS hs_; have HS := n0_; clear n0_))
  rw [rounds_succ]
  go_wp2_with (first | ((with_reducible refine gate_builtin (b := .append) (xs := #[.tmp 242, .tmp 243]) rfl ?_); at_builtin; refine app1 rfl (.tmp 242) (.tmp 243) rfl Tryz.underlying97 info5 _ HS.out rfl rfl (by (try simp only [List.length_append, List.length_cons, List.length_nil, List.length_take, List.length_drop, List.length_replicate]); omega) ?_; intro v_ w_ hs_; have n0_ := Aside0.mk hs_; clear HS hs_; have HS := n0_; clear n0_))
  rw [rounds_succ]
  go_wp2_with (first | ((with_reducible refine gate_builtin (b := .append) (xs := #[.tmp 242, .tmp 243]) rfl ?_); at_builtin; refine app1 rfl (.tmp 242) (.tmp 243) rfl Tryz.underlying97 info5 _ HS.out rfl rfl (by (try simp only [List.length_append, List.length_cons, List.length_nil, List.length_take, List.length_drop, List.length_replicate]); omega) ?_; intro v_ w_ hs_; have n0_ := Aside0.mk hs_; clear HS hs_; have HS := n0_; clear n0_))
  go_loopw [0, 247] (fun v0 v1 w' => ∃ k : Nat, k ≤ nd ∧ v1 = .int .i64 k ∧ Aside0 (St w0 (some gs) ds w' v0 (([] : List Int) ++ [48] ++ [46] ++ [48] ++ [48] ++ ds.take k))) (fun _ v1 _ => nd - (intOf v1).toNat)
  case atStart => exact ⟨0, Nat.zero_le _, rfl, ⟨by simpa using HS.out⟩⟩
  case round =>
    clear HS
    obtain ⟨k, hk, rfl, HS⟩ := hrel
    by_cases hlt : k < nd
    · have hl_ : (([] : List Int) ++ [48] ++ [46] ++ [48] ++ [48]).length ≤ 100 := by (try simp only [List.length_append, List.length_cons, List.length_nil, List.length_take, List.length_drop, List.length_replicate]); omega
      obtain ⟨dk, hdk⟩ : ∃ d, ds[k]? = some d := ⟨ds[k]'(by have := HP.out; omega), List.getElem?_eq_getElem (by have := HP.out; omega)⟩
      have ck := (HS.out.src gs rfl).u8_at (k) dk hdk
      have HDK := Aside0.mk hdk
      clear hdk
      go_wp2_with (first | ((with_reducible refine gate_builtin (b := .append) (xs := #[.tmp 250, .tmp 257]) rfl ?_); at_builtin; refine app1 rfl (.tmp 250) (.tmp 257) rfl Tryz.underlying97 info5 _ HS.out rfl rfl (by (try simp only [List.length_append, List.length_cons, List.length_nil, List.length_take, List.length_drop, List.length_replicate] at hl_ ⊢); omega) ?_; intro v_ w_ hs_; have n0_ := Aside0.mk hs_; clear HS hs_; have HS := n0_; clear n0_))
      go_roundw
      case rel => exact ⟨k + 1, by omega, by go_num, ⟨by have hs := HS.out; rw [List.append_assoc] at hs; rw [show ds.take (k + 1) = ds.take k ++ [dk] from by rw [List.take_add_one, HDK.out]; rfl]; exact hs⟩⟩
      case measure => simp [intOf]; omega
    · have hke : nd = k := by omega
      subst hke
      go_wp2_with (fail)
      refine wp_loop_rounds 1 ?_
      rw [rounds_succ]
      go_wp2_with (fail)
      go_ret
      refine ⟨_, rfl, ?_⟩
      have hs := HS.out
      first | exact hs | (simp only [List.nil_append, List.append_assoc, List.cons_append, List.append_nil] at hs ⊢; exact hs) | (simp at hs ⊢; exact hs)
set_option maxHeartbeats 4000000 in
set_option maxRecDepth 100000 in
theorem efgf_18 (neg : Bool) (gs : Nat) (ds : List Int)  (nd : Nat) (hd : ds.length = 32) (hnd : nd ≤ 20) (h1 : 0 < nd) (w0 w : World) (v : Value) (h : St w0 (some gs) ds w v []) (hneg : neg = false) :
    Calls Tryz.prog 99 #[v, .bool neg, .slice (some ⟨gs, 0, none⟩) 32 32, .int .i64 (-3), .int .i64 nd, .int .i64 nd, .int .u8 103, .bool true] w fun e w' => ∃ v', e = .returned v' ∧ St w0 (some gs) ds w' v' ([] ++ [48] ++ (46 :: ([48, 48, 48] ++ ds.take nd))) := by
  subst hneg
  have HS := Aside0.mk h
  have HP := Aside0.mk hd
  clear h hd
  have h6 : (0 : Int) < (nd : Int) := by omega
  have h7 : (3 : Int) < (nd : Int) + 3 := by omega
  have h8 : ¬ ((nd : Int) + 3 < 3) := by omega
  go_enter Tryz.func99, Tryz.ntmps99
  go_wp2_with (first | ((with_reducible refine gate_builtin (b := .append) (xs := #[.tmp 179, .tmp 180]) rfl ?_); at_builtin; refine app1 rfl (.tmp 179) (.tmp 180) rfl Tryz.underlying97 info5 _ HS.out rfl rfl (by (try simp only [List.length_append, List.length_cons, List.length_nil, List.length_take, List.length_drop, List.length_replicate]); omega) ?_; intro v_ w_ hs_; have n0_ := Aside0.mk hs_; clear HS hs_; have HS := n0_; clear n0_) | ((with_reducible refine gate_builtin (b := .append) (xs := #[.tmp 209, .tmp 210]) rfl ?_); at_builtin; refine app1 rfl (.tmp 209) (.tmp 210) rfl Tryz.underlying97 info5 _ HS.out rfl rfl (by (try simp only [List.length_append, List.length_cons, List.length_nil, List.length_take, List.length_drop, List.length_replicate]); omega) ?_; intro v_ w_ hs_; have n0_ := Aside0.mk hs_; clear HS hs_; have HS := n0_; clear n0_) | ((with_reducible refine gate_builtin (b := .append) (xs := #[.tmp 214, .tmp 215]) rfl ?_); at_builtin; refine app1 rfl (.tmp 214) (.tmp 215) rfl Tryz.underlying97 info5 _ HS.out rfl rfl (by (try simp only [List.length_append, List.length_cons, List.length_nil, List.length_take, List.length_drop, List.length_replicate]); omega) ?_; intro v_ w_ hs_; have n0_ := Aside0.mk hs_; clear HS hs_; have HS := n0_; clear n0_))
  refine wp_loop_rounds 4 ?_
  rw [rounds_succ]
  go_wp2_with (first | ((with_reducible refine gate_builtin (b := .append) (xs := #[.tmp 242, .tmp 243]) rfl ?_); at_builtin; refine app1 rfl (.tmp 242) (.tmp 243) rfl Tryz.underlying97 info5 _ HS.out rfl rfl (by (try simp only [List.length_append, List.length_cons, List.length_nil, List.length_take, List.length_drop, List.length_replicate]); omega) ?_; intro v_ w_ hs_; have n0_ := Aside0.mk hs_; clear HS hs_; have HS := n0_; clear n0_))
  rw [rounds_succ]
  go_wp2_with (first | ((with_reducible refine gate_builtin (b := .append) (xs := #[.tmp 242, .tmp 243]) rfl ?_); at_builtin; refine app1 rfl (.tmp 242) (.tmp 243) rfl Tryz.underlying97 info5 _ HS.out rfl rfl (by (try simp only [List.length_append, List.length_cons, List.length_nil, List.length_take, List.length_drop, List.length_replicate]); omega) ?_; intro v_ w_ hs_; have n0_ := Aside0.mk hs_; clear HS hs_; have HS := n0_; clear n0_))
  rw [rounds_succ]
  go_wp2_with (first | ((with_reducible refine gate_builtin (b := .append) (xs := #[.tmp 242, .tmp 243]) rfl ?_); at_builtin; refine app1 rfl (.tmp 242) (.tmp 243) rfl Tryz.underlying97 info5 _ HS.out rfl rfl (by (try simp only [List.length_append, List.length_cons, List.length_nil, List.length_take, List.length_drop, List.length_replicate]); omega) ?_; intro v_ w_ hs_; have n0_ := Aside0.mk hs_; clear HS hs_; have HS := n0_; clear n0_))
  rw [rounds_succ]
  go_wp2_with (first | ((with_reducible refine gate_builtin (b := .append) (xs := #[.tmp 242, .tmp 243]) rfl ?_); at_builtin; refine app1 rfl (.tmp 242) (.tmp 243) rfl Tryz.underlying97 info5 _ HS.out rfl rfl (by (try simp only [List.length_append, List.length_cons, List.length_nil, List.length_take, List.length_drop, List.length_replicate]); omega) ?_; intro v_ w_ hs_; have n0_ := Aside0.mk hs_; clear HS hs_; have HS := n0_; clear n0_))
  go_loopw [0, 247] (fun v0 v1 w' => ∃ k : Nat, k ≤ nd ∧ v1 = .int .i64 k ∧ Aside0 (St w0 (some gs) ds w' v0 (([] : List Int) ++ [48] ++ [46] ++ [48] ++ [48] ++ [48] ++ ds.take k))) (fun _ v1 _ => nd - (intOf v1).toNat)
  case atStart => exact ⟨0, Nat.zero_le _, rfl, ⟨by simpa using HS.out⟩⟩
  case round =>
    clear HS
    obtain ⟨k, hk, rfl, HS⟩ := hrel
    by_cases hlt : k < nd
    · have hl_ : (([] : List Int) ++ [48] ++ [46] ++ [48] ++ [48] ++ [48]).length ≤ 100 := by (try simp only [List.length_append, List.length_cons, List.length_nil, List.length_take, List.length_drop, List.length_replicate]); omega
      obtain ⟨dk, hdk⟩ : ∃ d, ds[k]? = some d := ⟨ds[k]'(by have := HP.out; omega), List.getElem?_eq_getElem (by have := HP.out; omega)⟩
      have ck := (HS.out.src gs rfl).u8_at (k) dk hdk
      have HDK := Aside0.mk hdk
      clear hdk
      go_wp2_with (first | ((with_reducible refine gate_builtin (b := .append) (xs := #[.tmp 250, .tmp 257]) rfl ?_); at_builtin; refine app1 rfl (.tmp 250) (.tmp 257) rfl Tryz.underlying97 info5 _ HS.out rfl rfl (by (try simp only [List.length_append, List.length_cons, List.length_nil, List.length_take, List.length_drop, List.length_replicate] at hl_ ⊢); omega) ?_; intro v_ w_ hs_; have n0_ := Aside0.mk hs_; clear HS hs_; have HS := n0_; clear n0_))
      go_roundw
      case rel => exact ⟨k + 1, by omega, by go_num, ⟨by have hs := HS.out; rw [List.append_assoc] at hs; rw [show ds.take (k + 1) = ds.take k ++ [dk] from by rw [List.take_add_one, HDK.out]; rfl]; exact hs⟩⟩
      case measure => simp [intOf]; omega
    · have hke : nd = k := by omega
      subst hke
      go_wp2_with (fail)
      refine wp_loop_rounds 1 ?_
      rw [rounds_succ]
      go_wp2_with (fail)
      go_ret
      refine ⟨_, rfl, ?_⟩
      have hs := HS.out
      first | exact hs | (simp only [List.nil_append, List.append_assoc, List.cons_append, List.append_nil] at hs ⊢; exact hs) | (simp at hs ⊢; exact hs)
set_option maxHeartbeats 4000000 in
set_option maxRecDepth 100000 in
theorem efgf_19 (neg : Bool) (gs : Nat) (ds : List Int)  (nd : Nat) (hd : ds.length = 32) (hnd : nd ≤ 20) (h1 : nd = 0) (w0 w : World) (v : Value) (h : St w0 (some gs) ds w v []) (hneg : neg = false) :
    Calls Tryz.prog 99 #[v, .bool neg, .slice (some ⟨gs, 0, none⟩) 32 32, .int .i64 (-1), .int .i64 nd, .int .i64 nd, .int .u8 103, .bool true] w fun e w' => ∃ v', e = .returned v' ∧ St w0 (some gs) ds w' v' ([] ++ [48] ++ (46 :: [48])) := by
  subst hneg
  have HS := Aside0.mk h
  have HP := Aside0.mk hd
  clear h hd
  subst h1
  go_enter Tryz.func99, Tryz.ntmps99
  go_wp2_with (first | ((with_reducible refine gate_builtin (b := .append) (xs := #[.tmp 179, .tmp 180]) rfl ?_); at_builtin; refine app1 rfl (.tmp 179) (.tmp 180) rfl Tryz.underlying97 info5 _ HS.out rfl rfl (by (try simp only [List.length_append, List.length_cons, List.length_nil, List.length_take, List.length_drop, List.length_replicate]); omega) ?_; intro v_ w_ hs_; have n0_ := Aside0.mk hs_; clear HS hs_; have HS := n0_; clear n0_) | ((with_reducible refine gate_builtin (b := .append) (xs := #[.tmp 209, .tmp 210]) rfl ?_); at_builtin; refine app1 rfl (.tmp 209) (.tmp 210) rfl Tryz.underlying97 info5 _ HS.out rfl rfl (by (try simp only [List.length_append, List.length_cons, List.length_nil, List.length_take, List.length_drop, List.length_replicate]); omega) ?_; intro v_ w_ hs_; have n0_ := Aside0.mk hs_; clear HS hs_; have HS := n0_; clear n0_) | ((with_reducible refine gate_builtin (b := .append) (xs := #[.tmp 214, .tmp 215]) rfl ?_); at_builtin; refine app1 rfl (.tmp 214) (.tmp 215) rfl Tryz.underlying97 info5 _ HS.out rfl rfl (by (try simp only [List.length_append, List.length_cons, List.length_nil, List.length_take, List.length_drop, List.length_replicate]); omega) ?_; intro v_ w_ hs_; have n0_ := Aside0.mk hs_; clear HS hs_; have HS := n0_; clear n0_))
  refine wp_loop_rounds 2 ?_
  rw [rounds_succ]
  go_wp2_with (first | ((with_reducible refine gate_builtin (b := .append) (xs := #[.tmp 242, .tmp 243]) rfl ?_); at_builtin; refine app1 rfl (.tmp 242) (.tmp 243) rfl Tryz.underlying97 info5 _ HS.out rfl rfl (by (try simp only [List.length_append, List.length_cons, List.length_nil, List.length_take, List.length_drop, List.length_replicate]); omega) ?_; intro v_ w_ hs_; have n0_ := Aside0.mk hs_; clear HS hs_; have HS := n0_; clear n0_))
  rw [rounds_succ]
  go_wp2_with (first | ((with_reducible refine gate_builtin (b := .append) (xs := #[.tmp 242, .tmp 243]) rfl ?_); at_builtin; refine app1 rfl (.tmp 242) (.tmp 243) rfl Tryz.underlying97 info5 _ HS.out rfl rfl (by (try simp only [List.length_append, List.length_cons, List.length_nil, List.length_take, List.length_drop, List.length_replicate]); omega) ?_; intro v_ w_ hs_; have n0_ := Aside0.mk hs_; clear HS hs_; have HS := n0_; clear n0_))
  refine wp_loop_rounds 1 ?_
  rw [rounds_succ]
  go_wp2_with (fail)
  refine wp_loop_rounds 1 ?_
  rw [rounds_succ]
  go_wp2_with (fail)
  go_ret
  refine ⟨_, rfl, ?_⟩
  have hs := HS.out
  first | exact hs | (simp only [List.nil_append, List.append_assoc, List.cons_append, List.append_nil] at hs ⊢; exact hs) | (simp at hs ⊢; exact hs)
set_option maxHeartbeats 4000000 in
set_option maxRecDepth 100000 in
theorem efgf_20 (neg : Bool) (gs : Nat) (ds : List Int)  (nd : Nat) (hd : ds.length = 32) (hnd : nd ≤ 20) (h1 : nd = 0) (w0 w : World) (v : Value) (h : St w0 (some gs) ds w v []) (hneg : neg = false) :
    Calls Tryz.prog 99 #[v, .bool neg, .slice (some ⟨gs, 0, none⟩) 32 32, .int .i64 (-2), .int .i64 nd, .int .i64 nd, .int .u8 103, .bool true] w fun e w' => ∃ v', e = .returned v' ∧ St w0 (some gs) ds w' v' ([] ++ [48] ++ (46 :: [48, 48])) := by
  subst hneg
  have HS := Aside0.mk h
  have HP := Aside0.mk hd
  clear h hd
  subst h1
  go_enter Tryz.func99, Tryz.ntmps99
  go_wp2_with (first | ((with_reducible refine gate_builtin (b := .append) (xs := #[.tmp 179, .tmp 180]) rfl ?_); at_builtin; refine app1 rfl (.tmp 179) (.tmp 180) rfl Tryz.underlying97 info5 _ HS.out rfl rfl (by (try simp only [List.length_append, List.length_cons, List.length_nil, List.length_take, List.length_drop, List.length_replicate]); omega) ?_; intro v_ w_ hs_; have n0_ := Aside0.mk hs_; clear HS hs_; have HS := n0_; clear n0_) | ((with_reducible refine gate_builtin (b := .append) (xs := #[.tmp 209, .tmp 210]) rfl ?_); at_builtin; refine app1 rfl (.tmp 209) (.tmp 210) rfl Tryz.underlying97 info5 _ HS.out rfl rfl (by (try simp only [List.length_append, List.length_cons, List.length_nil, List.length_take, List.length_drop, List.length_replicate]); omega) ?_; intro v_ w_ hs_; have n0_ := Aside0.mk hs_; clear HS hs_; have HS := n0_; clear n0_) | ((with_reducible refine gate_builtin (b := .append) (xs := #[.tmp 214, .tmp 215]) rfl ?_); at_builtin; refine app1 rfl (.tmp 214) (.tmp 215) rfl Tryz.underlying97 info5 _ HS.out rfl rfl (by (try simp only [List.length_append, List.length_cons, List.length_nil, List.length_take, List.length_drop, List.length_replicate]); omega) ?_; intro v_ w_ hs_; have n0_ := Aside0.mk hs_; clear HS hs_; have HS := n0_; clear n0_))
  refine wp_loop_rounds 3 ?_
  rw [rounds_succ]
  go_wp2_with (first | ((with_reducible refine gate_builtin (b := .append) (xs := #[.tmp 242, .tmp 243]) rfl ?_); at_builtin; refine app1 rfl (.tmp 242) (.tmp 243) rfl Tryz.underlying97 info5 _ HS.out rfl rfl (by (try simp only [List.length_append, List.length_cons, List.length_nil, List.length_take, List.length_drop, List.length_replicate]); omega) ?_; intro v_ w_ hs_; have n0_ := Aside0.mk hs_; clear HS hs_; have HS := n0_; clear n0_))
  rw [rounds_succ]
  go_wp2_with (first | ((with_reducible refine gate_builtin (b := .append) (xs := #[.tmp 242, .tmp 243]) rfl ?_); at_builtin; refine app1 rfl (.tmp 242) (.tmp 243) rfl Tryz.underlying97 info5 _ HS.out rfl rfl (by (try simp only [List.length_append, List.length_cons, List.length_nil, List.length_take, List.length_drop, List.length_replicate]); omega) ?_; intro v_ w_ hs_; have n0_ := Aside0.mk hs_; clear HS hs_; have HS := n0_; clear n0_))
  rw [rounds_succ]
  go_wp2_with (first | ((with_reducible refine gate_builtin (b := .append) (xs := #[.tmp 242, .tmp 243]) rfl ?_); at_builtin; refine app1 rfl (.tmp 242) (.tmp 243) rfl Tryz.underlying97 info5 _ HS.out rfl rfl (by (try simp only [List.length_append, List.length_cons, List.length_nil, List.length_take, List.length_drop, List.length_replicate]); omega) ?_; intro v_ w_ hs_; have n0_ := Aside0.mk hs_; clear HS hs_; have HS := n0_; clear n0_))
  refine wp_loop_rounds 1 ?_
  rw [rounds_succ]
  go_wp2_with (fail)
  refine wp_loop_rounds 1 ?_
  rw [rounds_succ]
  go_wp2_with (fail)
  go_ret
  refine ⟨_, rfl, ?_⟩
  have hs := HS.out
  first | exact hs | (simp only [List.nil_append, List.append_assoc, List.cons_append, List.append_nil] at hs ⊢; exact hs) | (simp at hs ⊢; exact hs)
set_option maxHeartbeats 4000000 in
set_option maxRecDepth 100000 in
theorem efgf_21 (neg : Bool) (gs : Nat) (ds : List Int)  (nd : Nat) (hd : ds.length = 32) (hnd : nd ≤ 20) (h1 : nd = 0) (w0 w : World) (v : Value) (h : St w0 (some gs) ds w v []) (hneg : neg = false) :
    Calls Tryz.prog 99 #[v, .bool neg, .slice (some ⟨gs, 0, none⟩) 32 32, .int .i64 (-3), .int .i64 nd, .int .i64 nd, .int .u8 103, .bool true] w fun e w' => ∃ v', e = .returned v' ∧ St w0 (some gs) ds w' v' ([] ++ [48] ++ (46 :: [48, 48, 48])) := by
  subst hneg
  have HS := Aside0.mk h
  have HP := Aside0.mk hd
  clear h hd
  subst h1
  go_enter Tryz.func99, Tryz.ntmps99
  go_wp2_with (first | ((with_reducible refine gate_builtin (b := .append) (xs := #[.tmp 179, .tmp 180]) rfl ?_); at_builtin; refine app1 rfl (.tmp 179) (.tmp 180) rfl Tryz.underlying97 info5 _ HS.out rfl rfl (by (try simp only [List.length_append, List.length_cons, List.length_nil, List.length_take, List.length_drop, List.length_replicate]); omega) ?_; intro v_ w_ hs_; have n0_ := Aside0.mk hs_; clear HS hs_; have HS := n0_; clear n0_) | ((with_reducible refine gate_builtin (b := .append) (xs := #[.tmp 209, .tmp 210]) rfl ?_); at_builtin; refine app1 rfl (.tmp 209) (.tmp 210) rfl Tryz.underlying97 info5 _ HS.out rfl rfl (by (try simp only [List.length_append, List.length_cons, List.length_nil, List.length_take, List.length_drop, List.length_replicate]); omega) ?_; intro v_ w_ hs_; have n0_ := Aside0.mk hs_; clear HS hs_; have HS := n0_; clear n0_) | ((with_reducible refine gate_builtin (b := .append) (xs := #[.tmp 214, .tmp 215]) rfl ?_); at_builtin; refine app1 rfl (.tmp 214) (.tmp 215) rfl Tryz.underlying97 info5 _ HS.out rfl rfl (by (try simp only [List.length_append, List.length_cons, List.length_nil, List.length_take, List.length_drop, List.length_replicate]); omega) ?_; intro v_ w_ hs_; have n0_ := Aside0.mk hs_; clear HS hs_; have HS := n0_; clear n0_))
  refine wp_loop_rounds 4 ?_
  rw [rounds_succ]
  go_wp2_with (first | ((with_reducible refine gate_builtin (b := .append) (xs := #[.tmp 242, .tmp 243]) rfl ?_); at_builtin; refine app1 rfl (.tmp 242) (.tmp 243) rfl Tryz.underlying97 info5 _ HS.out rfl rfl (by (try simp only [List.length_append, List.length_cons, List.length_nil, List.length_take, List.length_drop, List.length_replicate]); omega) ?_; intro v_ w_ hs_; have n0_ := Aside0.mk hs_; clear HS hs_; have HS := n0_; clear n0_))
  rw [rounds_succ]
  go_wp2_with (first | ((with_reducible refine gate_builtin (b := .append) (xs := #[.tmp 242, .tmp 243]) rfl ?_); at_builtin; refine app1 rfl (.tmp 242) (.tmp 243) rfl Tryz.underlying97 info5 _ HS.out rfl rfl (by (try simp only [List.length_append, List.length_cons, List.length_nil, List.length_take, List.length_drop, List.length_replicate]); omega) ?_; intro v_ w_ hs_; have n0_ := Aside0.mk hs_; clear HS hs_; have HS := n0_; clear n0_))
  rw [rounds_succ]
  go_wp2_with (first | ((with_reducible refine gate_builtin (b := .append) (xs := #[.tmp 242, .tmp 243]) rfl ?_); at_builtin; refine app1 rfl (.tmp 242) (.tmp 243) rfl Tryz.underlying97 info5 _ HS.out rfl rfl (by (try simp only [List.length_append, List.length_cons, List.length_nil, List.length_take, List.length_drop, List.length_replicate]); omega) ?_; intro v_ w_ hs_; have n0_ := Aside0.mk hs_; clear HS hs_; have HS := n0_; clear n0_))
  rw [rounds_succ]
  go_wp2_with (first | ((with_reducible refine gate_builtin (b := .append) (xs := #[.tmp 242, .tmp 243]) rfl ?_); at_builtin; refine app1 rfl (.tmp 242) (.tmp 243) rfl Tryz.underlying97 info5 _ HS.out rfl rfl (by (try simp only [List.length_append, List.length_cons, List.length_nil, List.length_take, List.length_drop, List.length_replicate]); omega) ?_; intro v_ w_ hs_; have n0_ := Aside0.mk hs_; clear HS hs_; have HS := n0_; clear n0_))
  refine wp_loop_rounds 1 ?_
  rw [rounds_succ]
  go_wp2_with (fail)
  refine wp_loop_rounds 1 ?_
  rw [rounds_succ]
  go_wp2_with (fail)
  go_ret
  refine ⟨_, rfl, ?_⟩
  have hs := HS.out
  first | exact hs | (simp only [List.nil_append, List.append_assoc, List.cons_append, List.append_nil] at hs ⊢; exact hs) | (simp at hs ⊢; exact hs)
end Go.Proofs.YtjleceekccehoaaGreatDoor.Pr
