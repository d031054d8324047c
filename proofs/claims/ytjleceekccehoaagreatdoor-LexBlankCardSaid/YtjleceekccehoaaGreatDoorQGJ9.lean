/- Texts of this session, cut down to what one claim needs and joined: PrStrconvLower, FfSet0, FfRead0, FfReadN. -/
import Derived.Test.YtjleceekccehoaaGreatDoorQGJ0
import Derived.Test.YtjleceekccehoaaGreatDoorQGJ8
import Derived.Test.YtjleceekccehoaaGreatDoorQGJ3
import Derived.WalkMore
import Derived.Deep.CutRange
section
-- Written by a program of this session (wip/hook.py) out of the translation. Not trusted: Lean checks it.
namespace Go.Proofs.YtjleceekccehoaaGreatDoor.Pr
open Go.RowKit Go.Proofs.YtjleceekccehoaaGreatDoorW.PrintWords Go.Proofs.YtjleceekccehoaaGreatDoorW.PrintLast Go.Proofs.YtjleceekccehoaaGreatDoorW.PrintMore
attribute [local go_sem] max2_int min2_int max_two min_two max_three min_three max_four min_four   -- for this text's walks alone
set_option linter.unusedVariables false
set_option linter.unusedSimpArgs false

/-! ### strconv_lower: function 129 -/
def strconv_lower.f (a0 : Int) : Option (Int) := some (Go.bits .or .u8 a0 32)
set_option maxHeartbeats 8000000 in
set_option maxRecDepth 100000 in
theorem strconv_lower.calls (a0 : Int) (r : Int) (w : World) (h : strconv_lower.f a0 = some r) :
    Calls Tryz.prog 129 #[.int .u8 a0] w fun e w' => e = .returned (.int .u8 r) ∧ Drawn0 w w' := by
  have H : (some (Go.bits .or .u8 a0 32)) = some r := h
  clear h
  obtain rfl := Option.some.inj H
  go_enter Tryz.func129, Tryz.ntmps129
  go_wp2
  go_ret
  exact ⟨by first | rfl | (simp; done) | (simp [*]; done), by repeat (first | exact Drawn0.refl _ | apply Drawn0.step)⟩

end Go.Proofs.YtjleceekccehoaaGreatDoor.Pr
end

section
set_option linter.unusedVariables false
set_option linter.unusedSimpArgs false
namespace Go.Proofs.YtjleceekccehoaaGreatDoor.Pr
open Go.RowKit Go.Proofs.YtjleceekccehoaaGreatDoor.Dec Go.Proofs.YtjleceekccehoaaGreatDoorW.PrintWords Go.Proofs.YtjleceekccehoaaGreatDoorW.PrintLast Go.Proofs.YtjleceekccehoaaGreatDoorW.PrintMore

theorem DecB.setNg {w0 w : World} {g : Nat} {ds : List Int} {nd dp : Int} {ng tr : Bool} (h : DecB w0 w g ds nd dp ng tr) (x : Bool) : DecB w0 (w.setCell ⟨g, 802, none⟩ (.bool x)) g ds nd dp x tr :=
  h.set_ 802 _ _ _ _ _ _ h.len (by simp [decCells, List.set_append_right, h.len])
/-- A byte that a number may hold; one that it may begin with. -/
def NumC (c : UInt8) : Prop := (48 ≤ c.toNat ∧ c.toNat ≤ 57) ∨ c.toNat = 46 ∨ c.toNat = 101 ∨ c.toNat = 69 ∨ c.toNat = 43 ∨ c.toNat = 45
structure NumT (l : List UInt8) : Prop where
  len : l.length ≤ 200
  all : ∀ (i : Nat) (c : UInt8), l[i]? = some c → NumC c
  fst : ∀ c, l[0]? = some c → (48 ≤ c.toNat ∧ c.toNat ≤ 57) ∨ c.toNat = 46
/-- The byte at a place, as the walk reads it. -/
theorem at_byte (l : List UInt8) (i : Nat) (hi : i < l.length) : ∃ z : Nat, (∀ h : i < (bs l).size, ((bs l)[i]'h).toNat = z) ∧ z < 256 ∧ ∃ c, l[i]? = some c ∧ c.toNat = z := by
  refine ⟨(l[i]).toNat, fun h => rfl, (l[i]).toNat_lt, l[i], List.getElem?_eq_getElem hi, rfl⟩
theorem num_at {l : List UInt8} {L : Nat} (hT : NumT l) (hL : l.length = L) (i : Nat) (hi : i < L) : ∃ z : Nat, (∀ h : i < (bs l).size, ((bs l)[i]'h).toNat = z) ∧ ((48 ≤ z ∧ z ≤ 57) ∨ z = 46 ∨ z = 101 ∨ z = 69 ∨ z = 43 ∨ z = 45) ∧ (i = 0 → (48 ≤ z ∧ z ≤ 57) ∨ z = 46) := by
  obtain ⟨z, h1, -, c, hc, rfl⟩ := at_byte l i (by omega)
  exact ⟨_, h1, hT.all i c hc, fun h0 => by subst h0; exact hT.fst c hc⟩
/-- The decimal while i bytes are read. -/
def SetW (w0 w : World) (g : Nat) (i : Nat) : Prop := ∃ es m dp tr, DecB w0 w g es (m : Nat) dp false tr ∧ GoodD es m ∧ m ≤ i ∧ -(i : Int) ≤ dp ∧ dp ≤ i
def SetE (w0 w : World) (g : Nat) : Prop := ∃ es m dp tr, DecB w0 w g es (m : Nat) dp false tr ∧ GoodD es m ∧ -300000 ≤ dp ∧ dp ≤ 300000
theorem SetW.e {w0 w : World} {g i : Nat} (h : SetW w0 w g i) (hi : i ≤ 200) : SetE w0 w g := by
  obtain ⟨es, m, dp, tr, h1, h2, h3, h4, h5⟩ := h
  exact ⟨es, m, dp, tr, h1, h2, by omega, by omega⟩
theorem SetE.below {w0 w w' : World} {g : Nat} (h : SetE w0 w g) (hb : Below w.heap.size w w') : SetE w0 w' g := by
  obtain ⟨es, m, dp, tr, h1, h2, h3, h4⟩ := h
  exact ⟨es, m, dp, tr, h1.below hb, h2, h3, h4⟩
theorem SetW.below {w0 w w' : World} {g i : Nat} (h : SetW w0 w g i) (hb : Below w.heap.size w w') : SetW w0 w' g i := by
  obtain ⟨es, m, dp, tr, h1, h2, h3, h4⟩ := h
  exact ⟨es, m, dp, tr, h1.below hb, h2, h3, h4⟩
theorem good_put {es : List Int} {m : Nat} (h : GoodD es m) (hm : m < 800) (x : Int) (h1 : 48 ≤ x ∧ x ≤ 57) (h0 : m = 0 → x ≠ 48) : GoodD (es.set m x) (m + 1) := by
  have hl := h.len
  refine ⟨by simp [hl], by omega, fun i y hi hy => ?_, fun _ y hy => ?_⟩
  · by_cases he : i = m
    · subst he
      rw [List.getElem?_set_self (by omega)] at hy
      injection hy with hy; omega
    · rw [List.getElem?_set_ne (by omega)] at hy
      exact h.dig i y (by omega) hy
  · by_cases he : m = 0
    · subst he
      rw [List.getElem?_set_self (by omega)] at hy
      injection hy with hy
      have := h0 rfl; omega
    · rw [List.getElem?_set_ne (by omega)] at hy
      exact h.one (by omega) y hy
theorem lower_any (z r : Int) (h : strconv_lower.f z = some r) (w : World) : Calls Tryz.prog 129 #[.int .u8 z] w fun e w' => e = .returned (.int .u8 r) ∧ Drawn0 w w' := strconv_lower.calls z _ w h
theorem low101 : strconv_lower.f 101 = some 101 := by kernel_rfl
theorem low69 : strconv_lower.f 69 = some 101 := by kernel_rfl
theorem low43 : strconv_lower.f 43 = some 43 := by kernel_rfl
theorem low45 : strconv_lower.f 45 = some 45 := by kernel_rfl
theorem low120 : strconv_lower.f 46 = some 46 := by kernel_rfl
/-- The first e (or E) of a text stands at p, or there is none and p is its length. -/
structure EAt (l : List UInt8) (p : Nat) : Prop where
  le : p ≤ l.length
  iff : ∀ (i : Nat) (c : UInt8), l[i]? = some c → i ≤ p → ((c.toNat = 101 ∨ c.toNat = 69) ↔ i = p)
theorem eat_at : ∀ l : List UInt8, ∃ p, EAt l p := by
  intro l
  induction l with
  | nil => exact ⟨0, ⟨by simp, fun i c h => by simp at h⟩⟩
  | cons d r ih =>
    by_cases hd : d.toNat = 101 ∨ d.toNat = 69
    · refine ⟨0, ⟨by simp, fun i c h hi => ?_⟩⟩
      obtain rfl : i = 0 := by omega
      simp at h; subst h; simp [hd]
    · obtain ⟨p, hp⟩ := ih
      refine ⟨p + 1, ⟨by have := hp.le; simp; omega, fun i c h hi => ?_⟩⟩
      cases i with
      | zero => simp at h; subst h; simp [hd]
      | succ i => have := hp.iff i c (by simpa using h) (by omega); rw [this]; omega
theorem num_eat {l : List UInt8} {L p : Nat} (hT : NumT l) (hL : l.length = L) (hE : EAt l p) (i : Nat) (hi : i < L) (hip : i ≤ p) : ∃ z : Nat, (∀ h : i < (bs l).size, ((bs l)[i]'h).toNat = z) ∧ ((48 ≤ z ∧ z ≤ 57) ∨ z = 46 ∨ z = 101 ∨ z = 69 ∨ z = 43 ∨ z = 45) ∧ ((z = 101 ∨ z = 69) ↔ i = p) := by
  obtain ⟨z, h1, -, c, hc, rfl⟩ := at_byte l i (by omega)
  exact ⟨_, h1, hT.all i c hc, hE.iff i c hc hip⟩
theorem low_e2 (z : Nat) (h : z = 101 ∨ z = 69) : strconv_lower.f z = some 101 := by
  rcases h with rfl | rfl
  · exact low101
  · exact low69
end Go.Proofs.YtjleceekccehoaaGreatDoor.Pr
end

section
set_option linter.unusedVariables false
set_option linter.unusedSimpArgs false
namespace Go.Proofs.YtjleceekccehoaaGreatDoor.Pr
open Go.RowKit Go.Proofs.YtjleceekccehoaaGreatDoorW.PrintWords Go.Proofs.YtjleceekccehoaaGreatDoorW.PrintLast Go.Proofs.YtjleceekccehoaaGreatDoorW.PrintMore

theorem low_ex (z : Nat) (h : (48 ≤ z ∧ z ≤ 57) ∨ z = 46 ∨ z = 101 ∨ z = 69 ∨ z = 43 ∨ z = 45) : ∃ r : Int, strconv_lower.f z = some r ∧ (r == 120) = false := by
  have h2 : z = 48 ∨ z = 49 ∨ z = 50 ∨ z = 51 ∨ z = 52 ∨ z = 53 ∨ z = 54 ∨ z = 55 ∨ z = 56 ∨ z = 57 ∨ z = 46 ∨ z = 101 ∨ z = 69 ∨ z = 43 ∨ z = 45 := by omega
  rcases h2 with rfl | rfl | rfl | rfl | rfl | rfl | rfl | rfl | rfl | rfl | rfl | rfl | rfl | rfl | rfl
  · exact ⟨48, by kernel_rfl, by decide⟩
  · exact ⟨49, by kernel_rfl, by decide⟩
  · exact ⟨50, by kernel_rfl, by decide⟩
  · exact ⟨51, by kernel_rfl, by decide⟩
  · exact ⟨52, by kernel_rfl, by decide⟩
  · exact ⟨53, by kernel_rfl, by decide⟩
  · exact ⟨54, by kernel_rfl, by decide⟩
  · exact ⟨55, by kernel_rfl, by decide⟩
  · exact ⟨56, by kernel_rfl, by decide⟩
  · exact ⟨57, by kernel_rfl, by decide⟩
  · exact ⟨46, by kernel_rfl, by decide⟩
  · exact ⟨101, by kernel_rfl, by decide⟩
  · exact ⟨101, by kernel_rfl, by decide⟩
  · exact ⟨43, by kernel_rfl, by decide⟩
  · exact ⟨45, by kernel_rfl, by decide⟩
theorem u64_rng (x : Int) : 0 ≤ IntKind.u64.wrap x ∧ IntKind.u64.wrap x ≤ 18446744073709551615 := by
  simp [IntKind.wrap, IntKind.bits, IntKind.signed]
  omega
/-- What readFloat returns: a mantissa, a power, no sign, no hex; how many bytes. -/
def RdE (L : Nat) (e : Ending) : Prop := ∃ (M p : Int) (tr ok : Bool) (i : Nat), e = .returned (.tuple #[.int .u64 M, .int .i64 p, .bool false, .bool tr, .bool false, .int .i64 (i : Int), .bool ok]) ∧ 0 ≤ M ∧ M ≤ 18446744073709551615 ∧ i ≤ L

end Go.Proofs.YtjleceekccehoaaGreatDoor.Pr
end

section
set_option linter.unusedVariables false
set_option linter.unusedSimpArgs false
namespace Go.Proofs.YtjleceekccehoaaGreatDoor.Pr
open Go.RowKit Go.Proofs.YtjleceekccehoaaGreatDoorW.PrintWords Go.Proofs.YtjleceekccehoaaGreatDoorW.PrintLast Go.Proofs.YtjleceekccehoaaGreatDoorW.PrintMore

set_option maxHeartbeats 8000000 in
set_option maxRecDepth 100000 in
theorem readFloat_N (l : List UInt8) (hT : NumT l) (p : Nat) (hE : EAt l p) (hpL : p = l.length)  (hn : l ≠ []) (w : World) :
    Calls Tryz.prog 153 #[.string (bs l)] w fun e w' => RdE l.length e ∧ Below w.heap.size w w' := by
  have hsz := bs_size l
  have hlen := hT.len
  obtain ⟨L, hL⟩ : ∃ L, l.length = L := ⟨_, rfl⟩
  have hL0 : 0 < L := by rw [← hL]; exact List.length_pos_iff.2 hn
  rw [hL] at hsz hlen hpL ⊢
  have HE := Aside0.mk hE
  clear hE
  have HT := Aside0.mk hT
  have HL0 := Aside0.mk hL
  clear hT hL hn
  obtain ⟨z, hz, -, hz0⟩ := num_at HT.out HL0.out 0 (by omega)
  have hz1 := hz0 rfl
  have t1 : decide (L = 0) = false := by simp; omega
  have t2 : (0 : Int) < (L : Int) := by omega
  have t3 : ((z : Int) == 43) = false := by rw [beq_eq_false_iff_ne]; omega
  have t4 : ((z : Int) == 45) = false := by rw [beq_eq_false_iff_ne]; omega
  have HLP := Aside0.mk hL0
  clear hz0 hz1 hL0
  go_enter Tryz.func153, Tryz.ntmps153
  go_wp2_with fail
  go_step3
  go_upto_region 12 with fail
  go_cut [54] from 36 to 54 (fun v54 wc => v54 = .bool false ∧ Aside0 (Below w.heap.size w wc))
  case first =>
    by_cases h2 : 2 < L
    · obtain ⟨z1, hz1, hz1c, -⟩ := num_at HT.out HL0.out 1 (by omega)
      obtain ⟨r, hr, hr0⟩ := low_ex z1 hz1c
      have t5 : (1 : Int) < (L : Int) := by omega
      have t6 : (2 : Int) < (L : Int) := by omega
      have HR := Aside0.mk hr
      clear hz1c hr
      by_cases h48 : z = 48
      · have t7 : ((z : Int) == 48) = true := by rw [beq_iff_eq]; omega
        clear h48
        go_wp2_with (first | (go_at_call 129; refine (lower_any _ _ HR.out _).mono ?_; rintro e_ w' ⟨rfl, ⟨n1, rfl⟩⟩))
        go_meet
        case rel => exact ⟨rfl, ⟨(by repeat (first | (with_reducible exact Below.refl _ _) | apply pw_below_drewN | apply below_drew1 | exact Below.refl _ _))⟩⟩
      · have t7 : ((z : Int) == 48) = false := by rw [beq_eq_false_iff_ne]; omega
        clear h48
        go_wp2_with fail
        go_meet
        case rel => exact ⟨rfl, ⟨(by repeat (first | (with_reducible exact Below.refl _ _) | apply pw_below_drewN | apply below_drew1 | exact Below.refl _ _))⟩⟩
    · have t6 : ((2 : Int) < (L : Int)) = False := eq_false (by omega)
      go_wp2_with fail
      go_meet
      case rel => exact ⟨rfl, ⟨(by repeat (first | (with_reducible exact Below.refl _ _) | apply pw_below_drewN | apply below_drew1 | exact Below.refl _ _))⟩⟩
  case rest =>
    obtain ⟨rfl, HW⟩ := hcut
    clear hz t3 t4
    go_wp2_with fail
    try go_step3
    go_wp2_with fail
    go_loopg [2, 5, 7, 9, 13, 14, 15, 16, 17] L (fun q v2 v5 v7 v9 v13 v14 v15 v16 v17 wr => ∃ (i m nm : Nat) (M dp : Int) (tr sd sg : Bool), v2 = .int .u64 M ∧ v5 = .bool tr ∧ v7 = .int .i64 (i : Int) ∧ v9 = .bool false ∧ v13 = .bool sd ∧ v14 = .bool sg ∧ v15 = .int .i64 (m : Int) ∧ v16 = .int .i64 (nm : Int) ∧ v17 = .int .i64 dp ∧ i + q = L ∧ i ≤ p ∧ m ≤ i ∧ nm ≤ 19 ∧ -(i : Int) ≤ dp ∧ dp ≤ i ∧ Aside0 (0 ≤ M ∧ M ≤ 18446744073709551615) ∧ Aside0 (Below w.heap.size w wr))
    case atStart => exact ⟨0, 0, 0, 0, 0, false, false, false, rfl, rfl, rfl, rfl, rfl, rfl, rfl, rfl, rfl, by omega, by omega, by omega, by omega, by omega, by omega, ⟨by omega, by omega⟩, ⟨by have := HW.out; first | exact this | exact below_step this (by repeat (first | (with_reducible exact Below.refl _ _) | apply pw_below_drewN | apply below_drew1 | exact Below.refl _ _))⟩⟩
    case round =>
      clear HW t1
      obtain ⟨i, m, nm, M, dp, tr, sd, sg, h2, h5, h7, h9, h13, h14, h15, h16, h17, hq, hipL, hm, hnm, hd1, hd2, HM, HW⟩ := hrel
      have HQ := Aside0.mk hq
      have hil : i ≤ L := by omega
      clear hq
      subst h2 h5 h7 h9 h13 h14 h15 h16 h17
      by_cases hi : i < L
      · obtain ⟨z, hz, hzc, hzp⟩ := num_eat HT.out HL0.out HE.out i hi hipL
        have HIP := Aside0.mk (And.intro hzp hipL)
        have t2 : (0 : Int) ≤ (i : Int) := by omega
        have t3 : (i : Int) < (L : Int) := by omega
        have t5 : ((z : Int) == 95) = false := by rw [beq_eq_false_iff_ne]; omega
        clear hi hzp
        rcases hzc with hzd | hzc
        · have t6 : ((z : Int) == 46) = false := by rw [beq_eq_false_iff_ne]; omega
          have t7 : (48 : Int) ≤ (z : Int) := by omega
          have t8 : (z : Int) ≤ 57 := by omega
          clear hzd
          by_cases h48 : z = 48
          · subst h48
            clear t6 t7 t8
            by_cases hm0 : m = 0
            · subst hm0
              go_wp2_with fail
              go_roundg (L - (i + 1))
              case measure => have := HQ.out; omega
              case rel => exact ⟨i + 1, 0, nm, M, dp - 1, tr, sd, true, rfl, rfl, by go_num, rfl, rfl, rfl, rfl, rfl, by go_num, by omega, by have := HIP.out; omega, by omega, by omega, by omega, by omega, HM, ⟨below_step HW.out (by repeat (first | (with_reducible exact Below.refl _ _) | apply pw_below_drewN | apply below_drew1 | exact Below.refl _ _))⟩⟩
            · have t9 : ((m : Int) == 0) = false := by rw [beq_eq_false_iff_ne]; omega
              by_cases h19 : nm < 19
              · have u1 : (nm : Int) < 19 := by omega
                go_wp2_with fail
                go_roundg (L - (i + 1))
                case measure => have := HQ.out; omega
                case rel => exact ⟨i + 1, m + 1, nm + 1, _, dp, tr, sd, true, rfl, rfl, by go_num, rfl, rfl, rfl, by go_num, by go_num, rfl, by omega, by have := HIP.out; omega, by omega, by omega, by omega, by omega, ⟨u64_rng _⟩, ⟨below_step HW.out (by repeat (first | (with_reducible exact Below.refl _ _) | apply pw_below_drewN | apply below_drew1 | exact Below.refl _ _))⟩⟩
              · have u1 : ((nm : Int) < 19) = False := eq_false (by omega)
                go_wp2_with fail
                go_roundg (L - (i + 1))
                case measure => have := HQ.out; omega
                case rel => exact ⟨i + 1, m + 1, nm, M, dp, tr, sd, true, rfl, rfl, by go_num, rfl, rfl, rfl, by go_num, rfl, rfl, by omega, by have := HIP.out; omega, by omega, by omega, by omega, by omega, HM, ⟨below_step HW.out (by repeat (first | (with_reducible exact Below.refl _ _) | apply pw_below_drewN | apply below_drew1 | exact Below.refl _ _))⟩⟩
          · have t10 : ((z : Int) == 48) = false := by rw [beq_eq_false_iff_ne]; omega
            clear h48
            by_cases h19 : nm < 19
            · have u1 : (nm : Int) < 19 := by omega
              go_wp2_with fail
              go_roundg (L - (i + 1))
              case measure => have := HQ.out; omega
              case rel => exact ⟨i + 1, m + 1, nm + 1, _, dp, tr, sd, true, rfl, rfl, by go_num, rfl, rfl, rfl, by go_num, by go_num, rfl, by omega, by have := HIP.out; omega, by omega, by omega, by omega, by omega, ⟨u64_rng _⟩, ⟨below_step HW.out (by repeat (first | (with_reducible exact Below.refl _ _) | apply pw_below_drewN | apply below_drew1 | exact Below.refl _ _))⟩⟩
            · have u1 : ((nm : Int) < 19) = False := eq_false (by omega)
              go_wp2_with fail
              go_roundg (L - (i + 1))
              case measure => have := HQ.out; omega
              case rel => exact ⟨i + 1, m + 1, nm, M, dp, true, sd, true, rfl, rfl, by go_num, rfl, rfl, rfl, by go_num, rfl, rfl, by omega, by have := HIP.out; omega, by omega, by omega, by omega, by omega, HM, ⟨below_step HW.out (by repeat (first | (with_reducible exact Below.refl _ _) | apply pw_below_drewN | apply below_drew1 | exact Below.refl _ _))⟩⟩
        rcases hzc with hz46 | hzc
        · subst hz46
          clear t5
          cases sd
          · go_wp2_with fail
            go_roundg (L - (i + 1))
            case measure => have := HQ.out; omega
            case rel => exact ⟨i + 1, m, nm, M, m, tr, true, sg, rfl, rfl, by go_num, rfl, rfl, rfl, rfl, rfl, rfl, by omega, by have := HIP.out; omega, by omega, by omega, by omega, by omega, HM, ⟨below_step HW.out (by repeat (first | (with_reducible exact Below.refl _ _) | apply pw_below_drewN | apply below_drew1 | exact Below.refl _ _))⟩⟩
          · have hl := low120
            cases sg
            · go_wp2_with fail
              all_goals
                (try simp only [Exit.noGoto])
                refine bodyPost_ret (results_list (rs := [.tmp 2, .tmp 3, .tmp 4, .tmp 5, .tmp 6, .tmp 7, .tmp 8]) rfl (by simp) (.tmp (.tmp (.tmp (.tmp (.tmp (.tmp (.tmp .nil)))))))) rfl ?_
                exact ⟨⟨_, _, _, _, i, rfl, HM.out.1, HM.out.2, by omega⟩, below_step HW.out (by repeat (first | (with_reducible exact Below.refl _ _) | apply pw_below_drewN | apply below_drew1 | exact Below.refl _ _))⟩
            · go_wp2_with (first | (go_at_call 129; refine (lower_any _ _ hl _).mono ?_; rintro e_ w' ⟨rfl, ⟨n1, rfl⟩⟩))
              all_goals
                (try simp only [Exit.noGoto])
                refine bodyPost_ret (results_list (rs := [.tmp 2, .tmp 3, .tmp 4, .tmp 5, .tmp 6, .tmp 7, .tmp 8]) rfl (by simp) (.tmp (.tmp (.tmp (.tmp (.tmp (.tmp (.tmp .nil)))))))) rfl ?_
                exact ⟨⟨_, _, _, _, i, rfl, HM.out.1, HM.out.2, by omega⟩, below_step HW.out (by repeat (first | (with_reducible exact Below.refl _ _) | apply pw_below_drewN | apply below_drew1 | exact Below.refl _ _))⟩
        have t6 : ((z : Int) == 46) = false := by rw [beq_eq_false_iff_ne]; omega
        have hz9 : z = 43 ∨ z = 45 := by have := HIP.out; omega
        clear hzc
        cases sg
        · rcases hz9 with rfl | rfl
          all_goals
            clear t5 t6
            go_wp2_with fail
            all_goals
              (try simp only [Exit.noGoto])
              refine bodyPost_ret (results_list (rs := [.tmp 2, .tmp 3, .tmp 4, .tmp 5, .tmp 6, .tmp 7, .tmp 8]) rfl (by simp) (.tmp (.tmp (.tmp (.tmp (.tmp (.tmp (.tmp .nil)))))))) rfl ?_
              exact ⟨⟨_, _, _, _, i, rfl, HM.out.1, HM.out.2, by omega⟩, below_step HW.out (by repeat (first | (with_reducible exact Below.refl _ _) | apply pw_below_drewN | apply below_drew1 | exact Below.refl _ _))⟩
        cases sd
        all_goals
          rcases hz9 with rfl | rfl
          · have hl := low43
            clear t5 t6
            go_wp2_with (first | (go_at_call 129; refine (lower_any _ _ hl _).mono ?_; rintro e_ w' ⟨rfl, ⟨n1, rfl⟩⟩))
            all_goals
              (try simp only [Exit.noGoto])
              refine bodyPost_ret (results_list (rs := [.tmp 2, .tmp 3, .tmp 4, .tmp 5, .tmp 6, .tmp 7, .tmp 8]) rfl (by simp) (.tmp (.tmp (.tmp (.tmp (.tmp (.tmp (.tmp .nil)))))))) rfl ?_
              exact ⟨⟨_, _, _, _, i, rfl, HM.out.1, HM.out.2, by omega⟩, below_step HW.out (by repeat (first | (with_reducible exact Below.refl _ _) | apply pw_below_drewN | apply below_drew1 | exact Below.refl _ _))⟩
          · have hl := low45
            clear t5 t6
            go_wp2_with (first | (go_at_call 129; refine (lower_any _ _ hl _).mono ?_; rintro e_ w' ⟨rfl, ⟨n1, rfl⟩⟩))
            all_goals
              (try simp only [Exit.noGoto])
              refine bodyPost_ret (results_list (rs := [.tmp 2, .tmp 3, .tmp 4, .tmp 5, .tmp 6, .tmp 7, .tmp 8]) rfl (by simp) (.tmp (.tmp (.tmp (.tmp (.tmp (.tmp (.tmp .nil)))))))) rfl ?_
              exact ⟨⟨_, _, _, _, i, rfl, HM.out.1, HM.out.2, by omega⟩, below_step HW.out (by repeat (first | (with_reducible exact Below.refl _ _) | apply pw_below_drewN | apply below_drew1 | exact Below.refl _ _))⟩
      · have t3 : ((i : Int) < (L : Int)) = False := eq_false (by omega)
        cases sg
        · go_wp2_with fail
          all_goals
            (try simp only [Exit.noGoto])
            refine bodyPost_ret (results_list (rs := [.tmp 2, .tmp 3, .tmp 4, .tmp 5, .tmp 6, .tmp 7, .tmp 8]) rfl (by simp) (.tmp (.tmp (.tmp (.tmp (.tmp (.tmp (.tmp .nil)))))))) rfl ?_
            exact ⟨⟨_, _, _, _, i, rfl, HM.out.1, HM.out.2, by omega⟩, below_step HW.out (by repeat (first | (with_reducible exact Below.refl _ _) | apply pw_below_drewN | apply below_drew1 | exact Below.refl _ _))⟩
        cases sd
        all_goals
          go_wp2_with fail
          all_goals
            (try simp only [Exit.noGoto])
            refine bodyPost_ret (results_list (rs := [.tmp 2, .tmp 3, .tmp 4, .tmp 5, .tmp 6, .tmp 7, .tmp 8]) rfl (by simp) (.tmp (.tmp (.tmp (.tmp (.tmp (.tmp (.tmp .nil)))))))) rfl ?_
            exact ⟨⟨_, _, _, _, i, rfl, HM.out.1, HM.out.2, by omega⟩, below_step HW.out (by repeat (first | (with_reducible exact Below.refl _ _) | apply pw_below_drewN | apply below_drew1 | exact Below.refl _ _))⟩
end Go.Proofs.YtjleceekccehoaaGreatDoor.Pr
end
