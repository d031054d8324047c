/- Texts of this session, cut down to what one claim needs and joined: SpanP. -/
import Derived.Test.YtjleceekccehoaaGreatDoorQGJ13
set_option linter.unusedVariables false
set_option linter.unusedSimpArgs false
namespace Go.Proofs.YtjleceekccehoaaGreatDoor.Pr
open Go.RowKit Go.Proofs.YtjleceekccehoaaGreatDoorW.PrintWords Go.Proofs.YtjleceekccehoaaGreatDoorW.PrintLast Go.Proofs.YtjleceekccehoaaGreatDoorW.PrintMore

def longOf (k : Nat) : Int := [31536000000, 604800000, 86400000, 3600000, 60000, 1000, 1].getD k 1
def MaxSpan : Int := 35184372088832
def parseR : Nat → List UInt8 → Int → Int → Option Int
  | 0, _, _, _ => none
  | f + 1, l, sum, next => if l = [] then some sum else
      if (numS MaxSpan l).2.2 = false ∨ (namedS (numS MaxSpan l).2.1).1 < next ∨ (numS MaxSpan l).1 > (MaxSpan - sum).tdiv (longOf (namedS (numS MaxSpan l).2.1).1.toNat) then none
      else parseR f (namedS (numS MaxSpan l).2.1).2 (sum + (numS MaxSpan l).1 * longOf (namedS (numS MaxSpan l).2.1).1.toNat) ((namedS (numS MaxSpan l).2.1).1 + 1)
def parseS (l : List UInt8) : Option Int := if l = [] ∨ l.length > 200 then none else parseR (l.length + 1) l 0 0
def errV : Option Int → Value
  | none => .iface 55 (.int .i64 13)
  | some _ => .nilIface

theorem numR_len (most : Int) : ∀ (l : List UInt8) (n m : Int) (r : List UInt8), numR most l n = some (m, r) → 0 ≤ n → 0 ≤ m ∧ r.length ≤ l.length
  | [], n, m, r, h, hn => by
    simp only [numR, Option.some.injEq, Prod.mk.injEq] at h
    obtain ⟨rfl, rfl⟩ := h
    exact ⟨hn, Nat.le_refl _⟩
  | c :: l, n, m, r, h, hn => by
    unfold numR at h
    split at h
    · simp only [Option.some.injEq, Prod.mk.injEq] at h
      obtain ⟨rfl, rfl⟩ := h
      exact ⟨hn, Nat.le_refl _⟩
    · split at h
      · cases h
      · have := numR_len most l _ m r h (by omega)
        exact ⟨this.1, Nat.le_succ_of_le this.2⟩
theorem numS_len (most : Int) (l : List UInt8) : (numS most l).2.1.length ≤ l.length := by
  unfold numS
  cases h : numR most l 0 with
  | none => simp
  | some x => obtain ⟨m, r⟩ := x; exact (numR_len most l 0 m r h (Int.le_refl _)).2
theorem numS_ok (most : Int) (l : List UInt8) (h : (numS most l).2.2 = true) : (numS most l).2.1.length < l.length ∧ 0 ≤ (numS most l).1 ∧ (numS most l).1 ≤ most := by
  unfold numS at h ⊢
  cases hr : numR most l 0 with
  | none => rw [hr] at h; cases h
  | some x =>
    obtain ⟨m, r⟩ := x
    rw [hr] at h
    simp only [Bool.and_eq_true, decide_eq_true_eq] at h
    exact ⟨h.1, (numR_len most l 0 m r hr (Int.le_refl _)).1, h.2⟩
theorem unitOf_cases (run : List UInt8) : unitOf run = -1 ∨ unitOf run = 0 ∨ unitOf run = 1 ∨ unitOf run = 2 ∨ unitOf run = 3 ∨ unitOf run = 4 ∨ unitOf run = 5 ∨ unitOf run = 6 := by
  unfold unitOf
  (repeat' split) <;> simp
theorem named_len (l : List UInt8) : (namedS l).2.length ≤ l.length := by
  unfold namedS
  dsimp only
  split
  · simp
  · exact (List.dropWhile_sublist _).length_le
def lenOf : Value → Nat
  | .string s => s.size
  | _ => 0

set_option maxHeartbeats 8000000 in
set_option maxRecDepth 100000 in
theorem parse_any (l : List UInt8) (hl : l.length ≤ 9223372036854775806) (w : World) (hU : LaidU w) :
    Calls Tryz.prog 74 #[.string (bs l)] w fun e w' => e = .returned (.tuple #[.int .i64 ((parseS l).getD 0), errV (parseS l)]) ∧ Below w.heap.size w w' := by
  have hsz := bs_size l
  have hbl : (bs l).toList = l := by rw [Lib.toList_data]; rfl
  have HU := Aside0.mk hU
  have hg : 3 < w.heap.size := World.block_lt_of_cell? w _ hU.1.1
  clear hU
  by_cases h0 : l = []
  · subst h0
    have HP : Aside0 (parseS [] = none) := ⟨by unfold parseS; rw [if_pos (.inl rfl)]⟩
    go_enter Tryz.func74, Tryz.ntmps74
    go_wp2
    go_ret2
    exact ⟨by rw [HP.out]; rfl, Below.refl _ _⟩
  have h0e : l.isEmpty = false := by cases l with | nil => exact absurd rfl h0 | cons _ _ => rfl
  by_cases h2 : (200 : Int) < (l.length : Int)
  · have HP : Aside0 (parseS l = none) := ⟨by unfold parseS; rw [if_pos (.inr (by omega))]⟩
    go_enter Tryz.func74, Tryz.ntmps74
    go_wp2
    go_ret2
    exact ⟨by rw [HP.out]; rfl, Below.refl _ _⟩
  obtain ⟨R, hR⟩ : ∃ R, R = parseR (l.length + 1) l 0 0 := ⟨_, rfl⟩
  have HP : Aside0 (parseS l = R) := ⟨by unfold parseS; rw [if_neg (by rintro (h | h); exact h0 h; omega), hR]⟩
  have HRR := Aside0.mk hR
  clear hR
  go_enter Tryz.func74, Tryz.ntmps74
  go_wp2
  go_loopw [0, 4, 5] (fun v0 v4 v5 w' => ∃ (l' : List UInt8) (sum next : Int) (f : Nat), v0 = .string (bs l') ∧ v4 = .int .i64 sum ∧ v5 = .int .i64 next ∧ l'.length < f ∧ l'.length ≤ l.length ∧ 0 ≤ sum ∧ sum ≤ 35184372088832 ∧ 0 ≤ next ∧ next ≤ 7 ∧ Aside0 (parseR f l' sum next = R) ∧ Aside0 (Below w.heap.size w w')) (fun v0 _ _ _ => lenOf v0)
  case atStart => exact ⟨l, 0, 0, l.length + 1, rfl, rfl, rfl, by omega, by omega, by omega, by omega, by omega, by omega, ⟨HRR.out.symm⟩, ⟨Below.refl _ _⟩⟩
  case round =>
    obtain ⟨l', sum, next, f, rfl, rfl, rfl, hf, hll, hs0, hs1, hn0, hn1, HR, HB⟩ := hrel
    obtain ⟨f, rfl⟩ : ∃ g, f = g + 1 := ⟨f - 1, by omega⟩
    have hbl' : (bs l').toList = l' := by rw [Lib.toList_data]; rfl
    by_cases he : l' = []
    · subst he
      have HP2 : Aside0 (parseS l = some sum) := ⟨by rw [HP.out, ← HR.out]; simp [parseR]⟩
      clear HR HP
      go_wp2
      go_ret2
      exact ⟨by rw [HP2.out]; rfl, HB.out⟩
    have hee : l'.isEmpty = false := by cases l' with | nil => exact absurd rfl he | cons _ _ => rfl
    have hr := HR.out
    unfold parseR at hr
    rw [if_neg he] at hr
    have HOK := Aside0.mk (numS_ok MaxSpan l')
    have HLEN := Aside0.mk (numS_len MaxSpan l')
    have HLEN2 := Aside0.mk (named_len (numS MaxSpan l').2.1)
    have HN : Aside0 (∀ w, Calls Tryz.prog 111 #[.string (bs l'), .int .i64 35184372088832] w fun e w' => e = .returned (.tuple #[.int .i64 (numS MaxSpan l').1, .string (bs (numS MaxSpan l').2.1), .bool (numS MaxSpan l').2.2]) ∧ Drawn0 w w') := ⟨fun w => number_any l' 35184372088832 (by omega) (by omega) (by omega) w⟩
    have HM : Aside0 (∀ w, LaidU w → Calls Tryz.prog 112 #[.string (bs (numS MaxSpan l').2.1)] w fun e w' => e = .returned (.tuple #[.int .i64 (namedS (numS MaxSpan l').2.1).1, .string (bs (namedS (numS MaxSpan l').2.1).2)]) ∧ Below w.heap.size w w') := ⟨fun w hu => named_any _ (by have := numS_len MaxSpan l'; omega) w hu⟩
    have HK := Aside0.mk (unitOf_cases ((numS MaxSpan l').2.1.takeWhile (uset.contains ·)))
    have HK2 : Aside0 ((namedS (numS MaxSpan l').2.1).1 = unitOf ((numS MaxSpan l').2.1.takeWhile (uset.contains ·))) := ⟨rfl⟩
    generalize unitOf ((numS MaxSpan l').2.1.takeWhile (uset.contains ·)) = k0 at HK HK2
    generalize namedS (numS MaxSpan l').2.1 = nm at *
    obtain ⟨k, behind⟩ := nm
    generalize numS MaxSpan l' = ns at *
    obtain ⟨n, rest, ok⟩ := ns
    dsimp only at *
    obtain rfl := HK2.out
    have hk := HK.out
    clear HK HK2 HR
    cases ok with
    | false =>
      have HP2 : Aside0 (parseS l = none) := ⟨by rw [HP.out, ← hr]; simp⟩
      clear hr HP hk
      go_wp2_with (first | (go_at_call 111; refine (HN.out _).mono ?_; rintro e w1 ⟨rfl, hd⟩; have HB1 := Aside0.mk (below_step HB.out hd.below); clear hd) | (go_at_call 112; refine (HM.out _ (HU.out.below HB1.out)).mono ?_; rintro e w2 ⟨rfl, hb⟩; have HB2 := Aside0.mk (below_step HB1.out hb); clear hb; obtain ⟨⟨a0, a1⟩, ⟨a2, a3⟩, ⟨a4, a5⟩, ⟨a6, a7⟩, ⟨a8, a9⟩, ⟨b0, b1⟩, b2, b3⟩ := HU.out.below HB2.out))
      go_ret2
      exact ⟨by rw [HP2.out]; rfl, HB2.out⟩
    | true =>
      obtain ⟨ho1, ho2, ho3⟩ := HOK.out rfl
      have hl2 := HLEN2.out
      unfold MaxSpan at ho3 hr
      have z1 : IntKind.i64.wrap (35184372088832 - sum) = 35184372088832 - sum := IntWalk.i64_in _ (by omega)
      clear HOK HLEN HLEN2
      by_cases hlt : k < next
      · have HP2 : Aside0 (parseS l = none) := ⟨by rw [HP.out, ← hr, if_pos (.inr (.inl hlt))]⟩
        clear hr HP hk
        go_wp2_with (first | (go_at_call 111; refine (HN.out _).mono ?_; rintro e w1 ⟨rfl, hd⟩; have HB1 := Aside0.mk (below_step HB.out hd.below); clear hd) | (go_at_call 112; refine (HM.out _ (HU.out.below HB1.out)).mono ?_; rintro e w2 ⟨rfl, hb⟩; have HB2 := Aside0.mk (below_step HB1.out hb); clear hb; obtain ⟨⟨a0, a1⟩, ⟨a2, a3⟩, ⟨a4, a5⟩, ⟨a6, a7⟩, ⟨a8, a9⟩, ⟨b0, b1⟩, b2, b3⟩ := HU.out.below HB2.out))
        go_ret2
        exact ⟨by rw [HP2.out]; rfl, HB2.out⟩
      have hk0 : k ≠ -1 := by omega
      rcases hk with hk | hk | hk | hk | hk | hk | hk | hk
      · exact absurd hk hk0
      · subst hk
        have hnx : next ≤ 0 := by omega
        have e1 : longOf (0 : Int).toNat = 31536000000 := rfl
        rw [e1] at hr
        obtain ⟨q, hq⟩ : ∃ q, (35184372088832 - sum).tdiv 31536000000 = q := ⟨_, rfl⟩
        have hq2 : (35184372088832 - sum) / 31536000000 = q := by rw [← hq, Int.tdiv_eq_ediv_of_nonneg (by omega)]
        have z2 : IntKind.i64.wrap q = q := IntWalk.i64_in _ (by omega)
        rw [hq] at hr
        have HQ2 := Aside0.mk hq2
        clear hq2
        by_cases hbig : n > q
        · have HP2 : Aside0 (parseS l = none) := ⟨by rw [HP.out, ← hr, if_pos (.inr (.inr hbig))]⟩
          clear hr HP
          go_wp2_with (first | (go_at_call 111; refine (HN.out _).mono ?_; rintro e w1 ⟨rfl, hd⟩; have HB1 := Aside0.mk (below_step HB.out hd.below); clear hd) | (go_at_call 112; refine (HM.out _ (HU.out.below HB1.out)).mono ?_; rintro e w2 ⟨rfl, hb⟩; have HB2 := Aside0.mk (below_step HB1.out hb); clear hb; obtain ⟨⟨a0, a1⟩, ⟨a2, a3⟩, ⟨a4, a5⟩, ⟨a6, a7⟩, ⟨a8, a9⟩, ⟨b0, b1⟩, b2, b3⟩ := HU.out.below HB2.out))
          go_ret2
          exact ⟨by rw [HP2.out]; rfl, HB2.out⟩
        · rw [if_neg (by rintro (h | h | h); exact absurd h (by simp); exact hlt h; exact hbig h)] at hr
          have HR2 := Aside0.mk hr
          clear hr
          have hb3 : n * 31536000000 ≤ 35184372088832 - sum := by have := HQ2.out; omega
          have z3 : IntKind.i64.wrap (n * 31536000000) = n * 31536000000 := IntWalk.i64_in _ (by omega)
          have z4 : IntKind.i64.wrap (sum + n * 31536000000) = sum + n * 31536000000 := IntWalk.i64_in _ (by omega)
          have hb4 : 0 ≤ n * 31536000000 := by omega
          go_wp2_with (first | (go_at_call 111; refine (HN.out _).mono ?_; rintro e w1 ⟨rfl, hd⟩; have HB1 := Aside0.mk (below_step HB.out hd.below); clear hd) | (go_at_call 112; refine (HM.out _ (HU.out.below HB1.out)).mono ?_; rintro e w2 ⟨rfl, hb⟩; have HB2 := Aside0.mk (below_step HB1.out hb); clear hb; obtain ⟨⟨a0, a1⟩, ⟨a2, a3⟩, ⟨a4, a5⟩, ⟨a6, a7⟩, ⟨a8, a9⟩, ⟨b0, b1⟩, b2, b3⟩ := HU.out.below HB2.out))
          go_roundw
          case rel => exact ⟨behind, sum + n * 31536000000, 1, f, rfl, by go_num, by go_num, by omega, by omega, by omega, by omega, by omega, by omega, HR2, HB2⟩
          case measure => show (bs behind).size < (bs l').size; rw [bs_size, bs_size]; omega
      · subst hk
        have hnx : next ≤ 1 := by omega
        have e1 : longOf (1 : Int).toNat = 604800000 := rfl
        rw [e1] at hr
        obtain ⟨q, hq⟩ : ∃ q, (35184372088832 - sum).tdiv 604800000 = q := ⟨_, rfl⟩
        have hq2 : (35184372088832 - sum) / 604800000 = q := by rw [← hq, Int.tdiv_eq_ediv_of_nonneg (by omega)]
        have z2 : IntKind.i64.wrap q = q := IntWalk.i64_in _ (by omega)
        rw [hq] at hr
        have HQ2 := Aside0.mk hq2
        clear hq2
        by_cases hbig : n > q
        · have HP2 : Aside0 (parseS l = none) := ⟨by rw [HP.out, ← hr, if_pos (.inr (.inr hbig))]⟩
          clear hr HP
          go_wp2_with (first | (go_at_call 111; refine (HN.out _).mono ?_; rintro e w1 ⟨rfl, hd⟩; have HB1 := Aside0.mk (below_step HB.out hd.below); clear hd) | (go_at_call 112; refine (HM.out _ (HU.out.below HB1.out)).mono ?_; rintro e w2 ⟨rfl, hb⟩; have HB2 := Aside0.mk (below_step HB1.out hb); clear hb; obtain ⟨⟨a0, a1⟩, ⟨a2, a3⟩, ⟨a4, a5⟩, ⟨a6, a7⟩, ⟨a8, a9⟩, ⟨b0, b1⟩, b2, b3⟩ := HU.out.below HB2.out))
          go_ret2
          exact ⟨by rw [HP2.out]; rfl, HB2.out⟩
        · rw [if_neg (by rintro (h | h | h); exact absurd h (by simp); exact hlt h; exact hbig h)] at hr
          have HR2 := Aside0.mk hr
          clear hr
          have hb3 : n * 604800000 ≤ 35184372088832 - sum := by have := HQ2.out; omega
          have z3 : IntKind.i64.wrap (n * 604800000) = n * 604800000 := IntWalk.i64_in _ (by omega)
          have z4 : IntKind.i64.wrap (sum + n * 604800000) = sum + n * 604800000 := IntWalk.i64_in _ (by omega)
          have hb4 : 0 ≤ n * 604800000 := by omega
          go_wp2_with (first | (go_at_call 111; refine (HN.out _).mono ?_; rintro e w1 ⟨rfl, hd⟩; have HB1 := Aside0.mk (below_step HB.out hd.below); clear hd) | (go_at_call 112; refine (HM.out _ (HU.out.below HB1.out)).mono ?_; rintro e w2 ⟨rfl, hb⟩; have HB2 := Aside0.mk (below_step HB1.out hb); clear hb; obtain ⟨⟨a0, a1⟩, ⟨a2, a3⟩, ⟨a4, a5⟩, ⟨a6, a7⟩, ⟨a8, a9⟩, ⟨b0, b1⟩, b2, b3⟩ := HU.out.below HB2.out))
          go_roundw
          case rel => exact ⟨behind, sum + n * 604800000, 2, f, rfl, by go_num, by go_num, by omega, by omega, by omega, by omega, by omega, by omega, HR2, HB2⟩
          case measure => show (bs behind).size < (bs l').size; rw [bs_size, bs_size]; omega
      · subst hk
        have hnx : next ≤ 2 := by omega
        have e1 : longOf (2 : Int).toNat = 86400000 := rfl
        rw [e1] at hr
        obtain ⟨q, hq⟩ : ∃ q, (35184372088832 - sum).tdiv 86400000 = q := ⟨_, rfl⟩
        have hq2 : (35184372088832 - sum) / 86400000 = q := by rw [← hq, Int.tdiv_eq_ediv_of_nonneg (by omega)]
        have z2 : IntKind.i64.wrap q = q := IntWalk.i64_in _ (by omega)
        rw [hq] at hr
        have HQ2 := Aside0.mk hq2
        clear hq2
        by_cases hbig : n > q
        · have HP2 : Aside0 (parseS l = none) := ⟨by rw [HP.out, ← hr, if_pos (.inr (.inr hbig))]⟩
          clear hr HP
          go_wp2_with (first | (go_at_call 111; refine (HN.out _).mono ?_; rintro e w1 ⟨rfl, hd⟩; have HB1 := Aside0.mk (below_step HB.out hd.below); clear hd) | (go_at_call 112; refine (HM.out _ (HU.out.below HB1.out)).mono ?_; rintro e w2 ⟨rfl, hb⟩; have HB2 := Aside0.mk (below_step HB1.out hb); clear hb; obtain ⟨⟨a0, a1⟩, ⟨a2, a3⟩, ⟨a4, a5⟩, ⟨a6, a7⟩, ⟨a8, a9⟩, ⟨b0, b1⟩, b2, b3⟩ := HU.out.below HB2.out))
          go_ret2
          exact ⟨by rw [HP2.out]; rfl, HB2.out⟩
        · rw [if_neg (by rintro (h | h | h); exact absurd h (by simp); exact hlt h; exact hbig h)] at hr
          have HR2 := Aside0.mk hr
          clear hr
          have hb3 : n * 86400000 ≤ 35184372088832 - sum := by have := HQ2.out; omega
          have z3 : IntKind.i64.wrap (n * 86400000) = n * 86400000 := IntWalk.i64_in _ (by omega)
          have z4 : IntKind.i64.wrap (sum + n * 86400000) = sum + n * 86400000 := IntWalk.i64_in _ (by omega)
          have hb4 : 0 ≤ n * 86400000 := by omega
          go_wp2_with (first | (go_at_call 111; refine (HN.out _).mono ?_; rintro e w1 ⟨rfl, hd⟩; have HB1 := Aside0.mk (below_step HB.out hd.below); clear hd) | (go_at_call 112; refine (HM.out _ (HU.out.below HB1.out)).mono ?_; rintro e w2 ⟨rfl, hb⟩; have HB2 := Aside0.mk (below_step HB1.out hb); clear hb; obtain ⟨⟨a0, a1⟩, ⟨a2, a3⟩, ⟨a4, a5⟩, ⟨a6, a7⟩, ⟨a8, a9⟩, ⟨b0, b1⟩, b2, b3⟩ := HU.out.below HB2.out))
          go_roundw
          case rel => exact ⟨behind, sum + n * 86400000, 3, f, rfl, by go_num, by go_num, by omega, by omega, by omega, by omega, by omega, by omega, HR2, HB2⟩
          case measure => show (bs behind).size < (bs l').size; rw [bs_size, bs_size]; omega
      · subst hk
        have hnx : next ≤ 3 := by omega
        have e1 : longOf (3 : Int).toNat = 3600000 := rfl
        rw [e1] at hr
        obtain ⟨q, hq⟩ : ∃ q, (35184372088832 - sum).tdiv 3600000 = q := ⟨_, rfl⟩
        have hq2 : (35184372088832 - sum) / 3600000 = q := by rw [← hq, Int.tdiv_eq_ediv_of_nonneg (by omega)]
        have z2 : IntKind.i64.wrap q = q := IntWalk.i64_in _ (by omega)
        rw [hq] at hr
        have HQ2 := Aside0.mk hq2
        clear hq2
        by_cases hbig : n > q
        · have HP2 : Aside0 (parseS l = none) := ⟨by rw [HP.out, ← hr, if_pos (.inr (.inr hbig))]⟩
          clear hr HP
          go_wp2_with (first | (go_at_call 111; refine (HN.out _).mono ?_; rintro e w1 ⟨rfl, hd⟩; have HB1 := Aside0.mk (below_step HB.out hd.below); clear hd) | (go_at_call 112; refine (HM.out _ (HU.out.below HB1.out)).mono ?_; rintro e w2 ⟨rfl, hb⟩; have HB2 := Aside0.mk (below_step HB1.out hb); clear hb; obtain ⟨⟨a0, a1⟩, ⟨a2, a3⟩, ⟨a4, a5⟩, ⟨a6, a7⟩, ⟨a8, a9⟩, ⟨b0, b1⟩, b2, b3⟩ := HU.out.below HB2.out))
          go_ret2
          exact ⟨by rw [HP2.out]; rfl, HB2.out⟩
        · rw [if_neg (by rintro (h | h | h); exact absurd h (by simp); exact hlt h; exact hbig h)] at hr
          have HR2 := Aside0.mk hr
          clear hr
          have hb3 : n * 3600000 ≤ 35184372088832 - sum := by have := HQ2.out; omega
          have z3 : IntKind.i64.wrap (n * 3600000) = n * 3600000 := IntWalk.i64_in _ (by omega)
          have z4 : IntKind.i64.wrap (sum + n * 3600000) = sum + n * 3600000 := IntWalk.i64_in _ (by omega)
          have hb4 : 0 ≤ n * 3600000 := by omega
          go_wp2_with (first | (go_at_call 111; refine (HN.out _).mono ?_; rintro e w1 ⟨rfl, hd⟩; have HB1 := Aside0.mk (below_step HB.out hd.below); clear hd) | (go_at_call 112; refine (HM.out _ (HU.out.below HB1.out)).mono ?_; rintro e w2 ⟨rfl, hb⟩; have HB2 := Aside0.mk (below_step HB1.out hb); clear hb; obtain ⟨⟨a0, a1⟩, ⟨a2, a3⟩, ⟨a4, a5⟩, ⟨a6, a7⟩, ⟨a8, a9⟩, ⟨b0, b1⟩, b2, b3⟩ := HU.out.below HB2.out))
          go_roundw
          case rel => exact ⟨behind, sum + n * 3600000, 4, f, rfl, by go_num, by go_num, by omega, by omega, by omega, by omega, by omega, by omega, HR2, HB2⟩
          case measure => show (bs behind).size < (bs l').size; rw [bs_size, bs_size]; omega
      · subst hk
        have hnx : next ≤ 4 := by omega
        have e1 : longOf (4 : Int).toNat = 60000 := rfl
        rw [e1] at hr
        obtain ⟨q, hq⟩ : ∃ q, (35184372088832 - sum).tdiv 60000 = q := ⟨_, rfl⟩
        have hq2 : (35184372088832 - sum) / 60000 = q := by rw [← hq, Int.tdiv_eq_ediv_of_nonneg (by omega)]
        have z2 : IntKind.i64.wrap q = q := IntWalk.i64_in _ (by omega)
        rw [hq] at hr
        have HQ2 := Aside0.mk hq2
        clear hq2
        by_cases hbig : n > q
        · have HP2 : Aside0 (parseS l = none) := ⟨by rw [HP.out, ← hr, if_pos (.inr (.inr hbig))]⟩
          clear hr HP
          go_wp2_with (first | (go_at_call 111; refine (HN.out _).mono ?_; rintro e w1 ⟨rfl, hd⟩; have HB1 := Aside0.mk (below_step HB.out hd.below); clear hd) | (go_at_call 112; refine (HM.out _ (HU.out.below HB1.out)).mono ?_; rintro e w2 ⟨rfl, hb⟩; have HB2 := Aside0.mk (below_step HB1.out hb); clear hb; obtain ⟨⟨a0, a1⟩, ⟨a2, a3⟩, ⟨a4, a5⟩, ⟨a6, a7⟩, ⟨a8, a9⟩, ⟨b0, b1⟩, b2, b3⟩ := HU.out.below HB2.out))
          go_ret2
          exact ⟨by rw [HP2.out]; rfl, HB2.out⟩
        · rw [if_neg (by rintro (h | h | h); exact absurd h (by simp); exact hlt h; exact hbig h)] at hr
          have HR2 := Aside0.mk hr
          clear hr
          have hb3 : n * 60000 ≤ 35184372088832 - sum := by have := HQ2.out; omega
          have z3 : IntKind.i64.wrap (n * 60000) = n * 60000 := IntWalk.i64_in _ (by omega)
          have z4 : IntKind.i64.wrap (sum + n * 60000) = sum + n * 60000 := IntWalk.i64_in _ (by omega)
          have hb4 : 0 ≤ n * 60000 := by omega
          go_wp2_with (first | (go_at_call 111; refine (HN.out _).mono ?_; rintro e w1 ⟨rfl, hd⟩; have HB1 := Aside0.mk (below_step HB.out hd.below); clear hd) | (go_at_call 112; refine (HM.out _ (HU.out.below HB1.out)).mono ?_; rintro e w2 ⟨rfl, hb⟩; have HB2 := Aside0.mk (below_step HB1.out hb); clear hb; obtain ⟨⟨a0, a1⟩, ⟨a2, a3⟩, ⟨a4, a5⟩, ⟨a6, a7⟩, ⟨a8, a9⟩, ⟨b0, b1⟩, b2, b3⟩ := HU.out.below HB2.out))
          go_roundw
          case rel => exact ⟨behind, sum + n * 60000, 5, f, rfl, by go_num, by go_num, by omega, by omega, by omega, by omega, by omega, by omega, HR2, HB2⟩
          case measure => show (bs behind).size < (bs l').size; rw [bs_size, bs_size]; omega
      · subst hk
        have hnx : next ≤ 5 := by omega
        have e1 : longOf (5 : Int).toNat = 1000 := rfl
        rw [e1] at hr
        obtain ⟨q, hq⟩ : ∃ q, (35184372088832 - sum).tdiv 1000 = q := ⟨_, rfl⟩
        have hq2 : (35184372088832 - sum) / 1000 = q := by rw [← hq, Int.tdiv_eq_ediv_of_nonneg (by omega)]
        have z2 : IntKind.i64.wrap q = q := IntWalk.i64_in _ (by omega)
        rw [hq] at hr
        have HQ2 := Aside0.mk hq2
        clear hq2
        by_cases hbig : n > q
        · have HP2 : Aside0 (parseS l = none) := ⟨by rw [HP.out, ← hr, if_pos (.inr (.inr hbig))]⟩
          clear hr HP
          go_wp2_with (first | (go_at_call 111; refine (HN.out _).mono ?_; rintro e w1 ⟨rfl, hd⟩; have HB1 := Aside0.mk (below_step HB.out hd.below); clear hd) | (go_at_call 112; refine (HM.out _ (HU.out.below HB1.out)).mono ?_; rintro e w2 ⟨rfl, hb⟩; have HB2 := Aside0.mk (below_step HB1.out hb); clear hb; obtain ⟨⟨a0, a1⟩, ⟨a2, a3⟩, ⟨a4, a5⟩, ⟨a6, a7⟩, ⟨a8, a9⟩, ⟨b0, b1⟩, b2, b3⟩ := HU.out.below HB2.out))
          go_ret2
          exact ⟨by rw [HP2.out]; rfl, HB2.out⟩
        · rw [if_neg (by rintro (h | h | h); exact absurd h (by simp); exact hlt h; exact hbig h)] at hr
          have HR2 := Aside0.mk hr
          clear hr
          have hb3 : n * 1000 ≤ 35184372088832 - sum := by have := HQ2.out; omega
          have z3 : IntKind.i64.wrap (n * 1000) = n * 1000 := IntWalk.i64_in _ (by omega)
          have z4 : IntKind.i64.wrap (sum + n * 1000) = sum + n * 1000 := IntWalk.i64_in _ (by omega)
          have hb4 : 0 ≤ n * 1000 := by omega
          go_wp2_with (first | (go_at_call 111; refine (HN.out _).mono ?_; rintro e w1 ⟨rfl, hd⟩; have HB1 := Aside0.mk (below_step HB.out hd.below); clear hd) | (go_at_call 112; refine (HM.out _ (HU.out.below HB1.out)).mono ?_; rintro e w2 ⟨rfl, hb⟩; have HB2 := Aside0.mk (below_step HB1.out hb); clear hb; obtain ⟨⟨a0, a1⟩, ⟨a2, a3⟩, ⟨a4, a5⟩, ⟨a6, a7⟩, ⟨a8, a9⟩, ⟨b0, b1⟩, b2, b3⟩ := HU.out.below HB2.out))
          go_roundw
          case rel => exact ⟨behind, sum + n * 1000, 6, f, rfl, by go_num, by go_num, by omega, by omega, by omega, by omega, by omega, by omega, HR2, HB2⟩
          case measure => show (bs behind).size < (bs l').size; rw [bs_size, bs_size]; omega
      · subst hk
        have hnx : next ≤ 6 := by omega
        have e1 : longOf (6 : Int).toNat = 1 := rfl
        rw [e1] at hr
        rw [Int.tdiv_one] at hr
        by_cases hbig : n > 35184372088832 - sum
        · have HP2 : Aside0 (parseS l = none) := ⟨by rw [HP.out, ← hr, if_pos (.inr (.inr hbig))]⟩
          clear hr HP
          go_wp2_with (first | (go_at_call 111; refine (HN.out _).mono ?_; rintro e w1 ⟨rfl, hd⟩; have HB1 := Aside0.mk (below_step HB.out hd.below); clear hd) | (go_at_call 112; refine (HM.out _ (HU.out.below HB1.out)).mono ?_; rintro e w2 ⟨rfl, hb⟩; have HB2 := Aside0.mk (below_step HB1.out hb); clear hb; obtain ⟨⟨a0, a1⟩, ⟨a2, a3⟩, ⟨a4, a5⟩, ⟨a6, a7⟩, ⟨a8, a9⟩, ⟨b0, b1⟩, b2, b3⟩ := HU.out.below HB2.out))
          go_ret2
          exact ⟨by rw [HP2.out]; rfl, HB2.out⟩
        · rw [if_neg (by rintro (h | h | h); exact absurd h (by simp); exact hlt h; exact hbig h)] at hr
          have HR2 := Aside0.mk hr
          clear hr
          have z3 : IntKind.i64.wrap n = n := IntWalk.i64_in _ (by omega)
          have z4 : IntKind.i64.wrap (sum + n) = sum + n := IntWalk.i64_in _ (by omega)
          go_wp2_with (first | (go_at_call 111; refine (HN.out _).mono ?_; rintro e w1 ⟨rfl, hd⟩; have HB1 := Aside0.mk (below_step HB.out hd.below); clear hd) | (go_at_call 112; refine (HM.out _ (HU.out.below HB1.out)).mono ?_; rintro e w2 ⟨rfl, hb⟩; have HB2 := Aside0.mk (below_step HB1.out hb); clear hb; obtain ⟨⟨a0, a1⟩, ⟨a2, a3⟩, ⟨a4, a5⟩, ⟨a6, a7⟩, ⟨a8, a9⟩, ⟨b0, b1⟩, b2, b3⟩ := HU.out.below HB2.out))
          go_roundw
          case rel => exact ⟨behind, sum + n, 7, f, rfl, by go_num, by go_num, by omega, by omega, by omega, by omega, by omega, by omega, ⟨by simpa using HR2.out⟩, HB2⟩
          case measure => show (bs behind).size < (bs l').size; rw [bs_size, bs_size]; omega
end Go.Proofs.YtjleceekccehoaaGreatDoor.Pr
