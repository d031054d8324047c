/- Texts of this session, cut down to what one claim needs and joined: FfText. -/
import Derived.Test.YtjleceekccehoaaGreatDoorBFfJoin
import Derived.Test.YtjleceekccehoaaGreatDoorBFfDig
import Derived.Test.YtjleceekccehoaaGreatDoorBFfShort
import Derived.StillTailTactics
import Derived.Laws.BitsLemmas
import Derived.Lib.EndianBits
import Derived.Deep.QuietTactic
import Derived.BigQuiet
set_option linter.unusedVariables false
set_option linter.unusedSimpArgs false
namespace Go.Proofs.YtjleceekccehoaaGreatDoor.Pr
open Go.RowKit Go.Proofs.YtjleceekccehoaaGreatDoorW.PrintWords Go.Proofs.YtjleceekccehoaaGreatDoorW.PrintLast Go.Proofs.YtjleceekccehoaaGreatDoorW.PrintMore

def Tells (w : World) (v : Value) (l : List Int) : Prop := (convert 97 9 v).run Tryz.prog w = .ok (.string (strOfNums l)) w
theorem bits_run (b : Nat) (w : World) : (callFunc 96 #[.float .f64 b]).run Tryz.prog w = .ok (.value (.int .u64 b)) w := by
  rw [run_callFunc_extern Tryz.func96 (by kernel_rfl) (by kernel_rfl) (by kernel_rfl) (e := Extern.MathFloatBits.float64bits) (by kernel_rfl)]; rfl
attribute [local go_sem] bits_run


theorem short_any (m e : Int) (h0 : 0 ≤ m) (h1 : m ≤ 18446744073709551615) (he0 : -1137 ≤ e) (he1 : e ≤ 960) (w : World) (hL : LaidF w) :
    Calls Tryz.prog 109 #[.int .u64 m, .int .i64 e] w fun e_ w' => e_ = .returned (.tuple #[.int .u64 (shV m e).1, .int .i64 (shV m e).2]) ∧ Below w.heap.size w w' := by
  by_cases hm : m = 9223372036854775808
  · have hm1 : (m == 9223372036854775808) = true := beq_iff_eq.2 hm
    by_cases h2 : -1085 < e
    · have := short_b1 m e h0 h1 h2 he1 hm1 w hL
      unfold shV shTop; rw [if_pos ⟨hm, h2⟩]; exact this
    · by_cases h3 : -1085 ≤ e
      · have := short_b4 m e h0 h1 h3 (by omega) hm1 w hL
        unfold shV shTop; rw [if_neg (fun h => h2 h.2), if_pos h3]; exact this
      · have := short_b5 m e h0 h1 he0 (by omega) hm1 w hL
        unfold shV shTop; rw [if_neg (fun h => h2 h.2), if_neg h3]; exact this
  · have hm1 : (m == 9223372036854775808) = false := beq_eq_false_iff_ne.2 hm
    by_cases h3 : -1085 ≤ e
    · have := short_b2 m e h0 h1 h3 he1 hm1 w hL
      unfold shV shTop; rw [if_neg (fun h => hm h.1), if_pos h3]; exact this
    · have := short_b3 m e h0 h1 he0 (by omega) hm1 w hL
      unfold shV shTop; rw [if_neg (fun h => hm h.1), if_neg h3]; exact this
theorem shFin_bd (m e p mn mx o : Int) (h0 : -324 ≤ p) (h1 : p ≤ 324) : 0 ≤ (shFin m e p mn mx o).1 ∧ (shFin m e p mn mx o).1 ≤ 4611686018427387903 ∧ -324 ≤ (shFin m e p mn mx o).2 ∧ (shFin m e p mn mx o).2 ≤ 325 := by
  have k1 := flo_bd (ndg (usc mx (hiT (p + 348).toNat) (loT (p + 348).toNat) (preS e (l2 p))) (-o))
  have k2 := cei_bd (ndg (usc mn (hiT (p + 348).toNat) (loT (p + 348).toNat) (preS e (l2 p))) o)
  have k3 := rou_bd (usc m (hiT (p + 348).toNat) (loT (p + 348).toNat) (preS e (l2 p)))
  unfold shFin
  simp only
  split
  · dsimp only; omega
  · split <;> (dsimp only; omega)
theorem shV_bd (m e : Int) (he0 : -1137 ≤ e) (he1 : e ≤ 960) : 0 ≤ (shV m e).1 ∧ (shV m e).1 ≤ 4611686018427387903 ∧ -324 ≤ (shV m e).2 ∧ (shV m e).2 ≤ 325 := by
  unfold shV shTop
  split
  · have := skw_bd (e + 11) (by omega) (by omega); exact shFin_bd _ _ _ _ _ _ (by dsimp only; omega) (by dsimp only; omega)
  · split
    · have := l10_bd2 (e + 11) (by omega) (by omega); exact shFin_bd _ _ _ _ _ _ (by dsimp only; omega) (by dsimp only; omega)
    · have := l10_bd2 (e + (11 + (-1085 - e))) (by omega) (by omega); exact shFin_bd _ _ _ _ _ _ (by dsimp only; omega) (by dsimp only; omega)
theorem bitLenAux_lt (f : Nat) : ∀ (x k : Nat), x < 2 ^ k → Lib.bitLenAux f x ≤ k := by
  induction f with
  | zero => intro x k h; simp [Lib.bitLenAux]
  | succ f ih =>
    intro x k h
    unfold Lib.bitLenAux
    split
    · omega
    · cases k with
      | zero => simp at h; omega
      | succ k => have := ih (x / 2) k (by rw [Nat.pow_succ] at h; omega); omega
theorem len64_mant (M : Int) (h0 : 1 ≤ M) (h1 : M < 9007199254740992) : 1 ≤ len64 M ∧ len64 M ≤ 53 := by
  have h := bitLenAux_lt 64 M.toNat 53 (by omega)
  have h2 : 1 ≤ Lib.bitLenAux 64 M.toNat := by unfold Lib.bitLenAux; rw [if_neg (by omega)]; omega
  unfold len64 Lib.bitLen; omega

def zeros32 : List Int := List.replicate 32 0
def tailV (neg : Bool) (M X : Int) : List Int :=
  let s := 64 - len64 M
  let r := shV (IntKind.u64.wrap (M * 2 ^ s.toNat)) (X - s - 52)
  let n := (nDig r.1).toNat
  let ds := b10 4 n r.1 zeros32
  efgV neg ds (n + r.2) (strip ds n)
def textV (b : Nat) : List Int :=
  let neg : Bool := ((b : Int) / 9223372036854775808 != 0)
  let e0 : Int := (b : Int) / 4503599627370496 % 2048
  let m0 : Int := (b : Int) % 4503599627370496
  if e0 = 2047 then (if m0 ≠ 0 then [78, 97, 78] else if neg = true then [45, 73, 110, 102] else [43, 73, 110, 102])
  else if e0 = 0 then (if m0 = 0 then (if neg = true then [45, 48] else [48]) else tailV neg m0 (-1022))
  else tailV neg (m0 + 4503599627370496) (e0 + -1023)

theorem and_exp (b : Nat) (hb : b < 18446744073709551616) : Go.bits .and .i64 ((b : Int) / 4503599627370496) 2047 = (b : Int) / 4503599627370496 % 2048 :=
  bits_mask .i64 12 (by decide) (fun n h0 h1 => IntWalk.i64_in _ (by omega)) 11 (by decide) _ (by omega) (by omega)
theorem and_man (b : Nat) (hb : b < 18446744073709551616) : Go.bits .and .u64 (b : Int) 4503599627370495 = (b : Int) % 4503599627370496 :=
  bits_mask .u64 64 (by decide) wraps_u64 52 (by decide) _ (by omega) (by omega)
theorem or_man (m : Int) (h0 : 0 ≤ m) (h1 : m < 4503599627370496) : Go.bits .or .u64 m 4503599627370496 = m + 4503599627370496 :=
  bits_join_low .u64 64 (by decide) wraps_u64 52 m 4503599627370496 h0 (by omega) (by omega) (by decide) (by decide) (by decide)

theorem St.tells {w0 w : World} {gs : Option Nat} {ds : List Int} {v : Value} {l : List Int} (h : St w0 gs ds w v l) : Tells w v l := by
  obtain ⟨A, c, rfl, hc, hC⟩ := Kd.R_reads h.row
  exact Kd.C_string Tryz.underlying97 Tryz.underlying5 Tryz.underlying9 hC
theorem appS {w0 W : World} {v : Value} {ops : Array Oper} {o : Oper} {a : Act} {Q : Exit → Act → World → Prop} {rest : List Oper} (hgd : o.guard = none) (s x : Operand) (ho : o.op = .call { callee := .builtin .append, args := #[s, x], argTypes := #[97, 9] })
    (y : ByteArray) (hs : a.eval s = v) (hx : a.eval x = .string y) (h : St w0 none [] W v []) (hy : y.size ≤ 1000)
    (K : ∀ v1 w1, Tells w1 v1 (bytesOf y) → Below w0.heap.size w0 w1 → wpList Tryz.prog ops Q rest (a.put o.dst v1) w1) : wpList Tryz.prog ops Q (o :: rest) a W := by
  obtain ⟨_, inner, hown, hreps⟩ := h.row
  have hi : inner = [] := List.eq_nil_of_length_eq_zero (by have := hreps.1; simpa using this)
  subst hi
  refine print_append_str (w0 := w0) w0.heap.size hgd s x 97 9 5 ho Tryz.underlying97 Tryz.underlying9 info5 v [] y hs hx hown h.bel h.bel.size (by simp; omega) ?_
  intro v1 w1 ho1 hb1 _
  exact K v1 w1 (own_string Tryz.underlying97 Tryz.underlying5 Tryz.underlying9 ho1) hb1

set_option maxHeartbeats 4000000 in
set_option maxRecDepth 100000 in
theorem ftoa_nan (b : Nat) (hb : b < 18446744073709551616) (w0 w : World) (v : Value) (h : St w0 none [] w v []) (h1 : (b : Int) / 4503599627370496 % 2048 = 2047) (h2 : (b : Int) % 4503599627370496 ≠ 0) :
    Calls Tryz.prog 68 #[v, .float .f64 b, .int .u8 103, .int .i64 (-1)] w fun e w' => ∃ v', e = .returned v' ∧ Tells w' v' [78, 97, 78] ∧ Below w0.heap.size w0 w' := by
  have hE := and_exp b hb
  rw [h1] at hE
  have hM := and_man b hb
  obtain ⟨m0, hm⟩ : ∃ m0, m0 = (b : Int) % 4503599627370496 := ⟨_, rfl⟩
  rw [← hm] at hM h2
  have t1 : (m0 != 0) = true := bne_iff_ne.2 h2
  have HS := Aside0.mk h
  clear hm h1 h2 h
  go_enter Tryz.func68, Tryz.ntmps68
  go_wp2_with fail
  go_quiet (fail)
  go_wp2_with (first | ((with_reducible refine gate_builtin (b := .append) (xs := #[.tmp 70, .const (.string ⟨#[78, 97, 78]⟩)]) rfl ?_); at_builtin; refine appS rfl (.tmp 70) (.const (.string ⟨#[78, 97, 78]⟩)) rfl _ rfl rfl (HS.out.drewN _) (by decide) ?_; intro v_ w_ hT_ hB_; have HT := Aside0.mk hT_; have HB := Aside0.mk hB_; clear hT_ hB_))
  go_ret
  exact ⟨_, rfl, HT.out, HB.out⟩
set_option maxHeartbeats 4000000 in
set_option maxRecDepth 100000 in
theorem ftoa_ninf (b : Nat) (hb : b < 18446744073709551616) (w0 w : World) (v : Value) (h : St w0 none [] w v []) (h1 : (b : Int) / 4503599627370496 % 2048 = 2047) (h2 : (b : Int) % 4503599627370496 = 0) (h3 : ((b : Int) / 9223372036854775808 != 0) = true) :
    Calls Tryz.prog 68 #[v, .float .f64 b, .int .u8 103, .int .i64 (-1)] w fun e w' => ∃ v', e = .returned v' ∧ Tells w' v' [45, 73, 110, 102] ∧ Below w0.heap.size w0 w' := by
  have hE := and_exp b hb
  rw [h1] at hE
  have hM := and_man b hb
  rw [h2] at hM
  obtain ⟨q, hq⟩ : ∃ q, (b : Int) / 9223372036854775808 = q := ⟨_, rfl⟩
  rw [hq] at h3
  have HS := Aside0.mk h
  clear h1 h2 h
  go_enter Tryz.func68, Tryz.ntmps68
  go_wp2_with fail
  go_quiet (fail)
  go_wp2_with (first | ((with_reducible refine gate_builtin (b := .append) (xs := #[.tmp 73, .const (.string ⟨#[45, 73, 110, 102]⟩)]) rfl ?_); at_builtin; refine appS rfl (.tmp 73) (.const (.string ⟨#[45, 73, 110, 102]⟩)) rfl _ rfl rfl (HS.out.drewN _) (by decide) ?_; intro v_ w_ hT_ hB_; have HT := Aside0.mk hT_; have HB := Aside0.mk hB_; clear hT_ hB_))
  go_ret
  exact ⟨_, rfl, HT.out, HB.out⟩
set_option maxHeartbeats 4000000 in
set_option maxRecDepth 100000 in
theorem ftoa_pinf (b : Nat) (hb : b < 18446744073709551616) (w0 w : World) (v : Value) (h : St w0 none [] w v []) (h1 : (b : Int) / 4503599627370496 % 2048 = 2047) (h2 : (b : Int) % 4503599627370496 = 0) (h3 : ((b : Int) / 9223372036854775808 != 0) = false) :
    Calls Tryz.prog 68 #[v, .float .f64 b, .int .u8 103, .int .i64 (-1)] w fun e w' => ∃ v', e = .returned v' ∧ Tells w' v' [43, 73, 110, 102] ∧ Below w0.heap.size w0 w' := by
  have hE := and_exp b hb
  rw [h1] at hE
  have hM := and_man b hb
  rw [h2] at hM
  obtain ⟨q, hq⟩ : ∃ q, (b : Int) / 9223372036854775808 = q := ⟨_, rfl⟩
  rw [hq] at h3
  have HS := Aside0.mk h
  clear h1 h2 h
  go_enter Tryz.func68, Tryz.ntmps68
  go_wp2_with fail
  go_quiet (fail)
  go_wp2_with (first | ((with_reducible refine gate_builtin (b := .append) (xs := #[.tmp 75, .const (.string ⟨#[43, 73, 110, 102]⟩)]) rfl ?_); at_builtin; refine appS rfl (.tmp 75) (.const (.string ⟨#[43, 73, 110, 102]⟩)) rfl _ rfl rfl (HS.out.drewN _) (by decide) ?_; intro v_ w_ hT_ hB_; have HT := Aside0.mk hT_; have HB := Aside0.mk hB_; clear hT_ hB_))
  go_ret
  exact ⟨_, rfl, HT.out, HB.out⟩
set_option maxHeartbeats 4000000 in
set_option maxRecDepth 100000 in
theorem efg_zero_t (w0 w : World) (v : Value) (h : St w0 none [] w v []) :
    Calls Tryz.prog 99 #[v, .bool true, .slice none 0 0, .int .i64 0, .int .i64 0, .int .i64 (-1), .int .u8 103, .bool true] w fun e w' => ∃ v', e = .returned v' ∧ Tells w' v' [45, 48] ∧ Below w0.heap.size w0 w' := by
  have HS := Aside0.mk h
  clear h
  go_enter Tryz.func99, Tryz.ntmps99
  go_wp2_with (first | ((with_reducible refine gate_builtin (b := .append) (xs := #[.tmp 179, .tmp 180]) rfl ?_); at_builtin; refine app1 rfl (.tmp 179) (.tmp 180) rfl Tryz.underlying97 info5 _ HS.out rfl rfl (by simp) ?_; intro v_ w_ hs_; have n0_ := Aside0.mk hs_; clear HS hs_; have HS := n0_; clear n0_) | ((with_reducible refine gate_builtin (b := .append) (xs := #[.tmp 209, .tmp 210]) rfl ?_); at_builtin; refine app1 rfl (.tmp 209) (.tmp 210) rfl Tryz.underlying97 info5 _ HS.out rfl rfl (by simp) ?_; intro v_ w_ hs_; have n0_ := Aside0.mk hs_; clear HS hs_; have HS := n0_; clear n0_))
  go_ret
  exact ⟨_, rfl, HS.out.tells, HS.out.bel⟩
set_option maxHeartbeats 4000000 in
set_option maxRecDepth 100000 in
theorem ftoa_zero_t (b : Nat) (hb : b < 18446744073709551616) (w0 w : World) (v : Value) (h : St w0 none [] w v []) (h1 : (b : Int) / 4503599627370496 % 2048 = 0) (h2 : (b : Int) % 4503599627370496 = 0) (h3 : ((b : Int) / 9223372036854775808 != 0) = true) :
    Calls Tryz.prog 68 #[v, .float .f64 b, .int .u8 103, .int .i64 (-1)] w fun e w' => ∃ v', e = .returned v' ∧ Tells w' v' [45, 48] ∧ Below w0.heap.size w0 w' := by
  have hE := and_exp b hb
  rw [h1] at hE
  have hM := and_man b hb
  rw [h2] at hM
  obtain ⟨q, hq⟩ : ∃ q, (b : Int) / 9223372036854775808 = q := ⟨_, rfl⟩
  rw [hq] at h3
  have HS := Aside0.mk h
  clear h1 h2 h
  go_enter Tryz.func68, Tryz.ntmps68
  go_wp2_with fail
  go_quiet (fail)
  go_wp2_with (first | (go_at_call 99; refine (efg_zero_t w0 _ _ (HS.out.drewN _)).mono ?_; rintro e_ w_ ⟨v_, rfl, hT_, hB_⟩; have HT := Aside0.mk hT_; have HB := Aside0.mk hB_; clear hT_ hB_))
  go_ret
  exact ⟨_, rfl, HT.out, HB.out⟩
set_option maxHeartbeats 4000000 in
set_option maxRecDepth 100000 in
theorem efg_zero_f (w0 w : World) (v : Value) (h : St w0 none [] w v []) :
    Calls Tryz.prog 99 #[v, .bool false, .slice none 0 0, .int .i64 0, .int .i64 0, .int .i64 (-1), .int .u8 103, .bool true] w fun e w' => ∃ v', e = .returned v' ∧ Tells w' v' [48] ∧ Below w0.heap.size w0 w' := by
  have HS := Aside0.mk h
  clear h
  go_enter Tryz.func99, Tryz.ntmps99
  go_wp2_with (first | ((with_reducible refine gate_builtin (b := .append) (xs := #[.tmp 179, .tmp 180]) rfl ?_); at_builtin; refine app1 rfl (.tmp 179) (.tmp 180) rfl Tryz.underlying97 info5 _ HS.out rfl rfl (by simp) ?_; intro v_ w_ hs_; have n0_ := Aside0.mk hs_; clear HS hs_; have HS := n0_; clear n0_) | ((with_reducible refine gate_builtin (b := .append) (xs := #[.tmp 209, .tmp 210]) rfl ?_); at_builtin; refine app1 rfl (.tmp 209) (.tmp 210) rfl Tryz.underlying97 info5 _ HS.out rfl rfl (by simp) ?_; intro v_ w_ hs_; have n0_ := Aside0.mk hs_; clear HS hs_; have HS := n0_; clear n0_))
  go_ret
  exact ⟨_, rfl, HS.out.tells, HS.out.bel⟩
set_option maxHeartbeats 4000000 in
set_option maxRecDepth 100000 in
theorem ftoa_zero_f (b : Nat) (hb : b < 18446744073709551616) (w0 w : World) (v : Value) (h : St w0 none [] w v []) (h1 : (b : Int) / 4503599627370496 % 2048 = 0) (h2 : (b : Int) % 4503599627370496 = 0) (h3 : ((b : Int) / 9223372036854775808 != 0) = false) :
    Calls Tryz.prog 68 #[v, .float .f64 b, .int .u8 103, .int .i64 (-1)] w fun e w' => ∃ v', e = .returned v' ∧ Tells w' v' [48] ∧ Below w0.heap.size w0 w' := by
  have hE := and_exp b hb
  rw [h1] at hE
  have hM := and_man b hb
  rw [h2] at hM
  obtain ⟨q, hq⟩ : ∃ q, (b : Int) / 9223372036854775808 = q := ⟨_, rfl⟩
  rw [hq] at h3
  have HS := Aside0.mk h
  clear h1 h2 h
  go_enter Tryz.func68, Tryz.ntmps68
  go_wp2_with fail
  go_quiet (fail)
  go_wp2_with (first | (go_at_call 99; refine (efg_zero_f w0 _ _ (HS.out.drewN _)).mono ?_; rintro e_ w_ ⟨v_, rfl, hT_, hB_⟩; have HT := Aside0.mk hT_; have HB := Aside0.mk hB_; clear hT_ hB_))
  go_ret
  exact ⟨_, rfl, HT.out, HB.out⟩
end Go.Proofs.YtjleceekccehoaaGreatDoor.Pr
