/- span.Text: the walk. -/
import Derived.Test.YtpjbllkifjhknaaDoorSpanP
import Derived.Lib.ItoaLen
import Derived.Deep.RegionHeldLaw
set_option linter.unusedVariables false
set_option linter.unusedSimpArgs false
namespace Go.Proofs.YtpjbllkifjhknaaDoor.Pr
open Go.RowKit Go.Proofs.YtpjbllkifjhknaaDoorW.PrintWords Go.Proofs.YtpjbllkifjhknaaDoorW.PrintLast Go.Proofs.YtpjbllkifjhknaaDoorW.PrintMore

theorem below_sgrow (w : World) (k : Nat) (os : Array Obj) : Below w.heap.size w (Go.Sort.grow (w.drewN k) os) :=
  ⟨rfl, rfl, rfl, by simp [Go.Sort.grow], fun j hj => by simp [Go.Sort.grow, Array.getElem?_append, hj]⟩
def LaidP (w : World) : Prop := Lib.TabIs Tryd.prog w "internal/strconv.uint64pow10" .u64 Lib.pow10Tab
theorem format_any (n : Int) (h0 : 0 ≤ n) (h1 : n ≤ 35184372088832) (w : World) (hp : LaidP w) :
    Calls Tryd.prog 17 #[.int .i64 n, .int .i64 10] w fun e w' => e = .returned (.string (bs (Lib.itoa n))) ∧ Below w.heap.size w w' := by
  refine (Any.strconv_FormatInt_10 Tryd.laysM173 n (by omega) (by omega) w hp).mono ?_
  rintro e w' ⟨rfl, k, os, rfl⟩
  exact ⟨rfl, below_sgrow w k os⟩
def unitsL : List (List UInt8 × Int) := [([121], 31536000000), ([119], 604800000), ([100], 86400000), ([104], 3600000), ([109], 60000), ([115], 1000), ([109, 115], 1)]
def textR : List (List UInt8 × Int) → Int → List UInt8 → List UInt8
  | [], _, out => out
  | (nm, L) :: r, v, out => textR r (v.tmod L) (if v.tdiv L > 0 then out ++ (Lib.itoa (v.tdiv L) ++ nm) else out)
def textS (v : Int) : Option (List UInt8) := if v < 0 ∨ v > 35184372088832 then none else if v = 0 then some [48, 115] else some (textR unitsL v [])
def errT : Option (List UInt8) → Value
  | none => .iface 38 (.int .i64 13)
  | some _ => .nilIface

theorem LaidP.below {w w' : World} (h : LaidP w) (hb : Below w.heap.size w w') : LaidP w' := by
  have hg : Tryd.prog.globalNamed "internal/strconv.uint64pow10" = some 2 := by kernel_rfl
  unfold LaidP Lib.TabIs World.var? at h ⊢
  rw [hg] at h ⊢
  simp only [Option.bind_some] at h ⊢
  have hlt : 2 < w.heap.size := by
    rcases Nat.lt_or_ge 2 w.heap.size with h' | h'
    · exact h'
    · rw [Array.getElem?_eq_none h'] at h; cases h
  rw [hb.block _ hlt]
  exact h
theorem bs_app (a b : List UInt8) : bs a ++ bs b = bs (a ++ b) := by
  apply ByteArray.ext
  simp [bs]

set_option maxHeartbeats 8000000 in
set_option maxRecDepth 100000 in
theorem text_any (v : Int) (h0 : -9223372036854775808 ≤ v) (h1 : v ≤ 9223372036854775807) (w : World) (hU : LaidU w) (hP : LaidP w) :
    Calls Tryd.prog 10 #[.int .i64 v] w fun e w' => e = .returned (.tuple #[.string (bs ((textS v).getD [])), errT (textS v)]) ∧ Below w.heap.size w w' := by
  have HU := Aside0.mk hU
  have HPP := Aside0.mk hP
  have hg : 0 < w.heap.size := World.block_lt_of_cell? w _ hU.1.1
  obtain ⟨⟨a0, a1⟩, ⟨a2, a3⟩, ⟨a4, a5⟩, ⟨a6, a7⟩, ⟨a8, a9⟩, ⟨b0, b1⟩, b2, b3⟩ := hU
  clear hP
  by_cases hv0 : v < 0
  · have HT : Aside0 (textS v = none) := ⟨by unfold textS; rw [if_pos (.inl hv0)]⟩
    go_enter Tryd.func10, Tryd.ntmps10
    go_wp2
    go_ret2
    exact ⟨by rw [HT.out]; rfl, Below.refl _ _⟩
  replace hv0 : 0 ≤ v := by omega
  by_cases hv1 : 35184372088832 < v
  · have HT : Aside0 (textS v = none) := ⟨by unfold textS; rw [if_pos (.inr hv1)]⟩
    go_enter Tryd.func10, Tryd.ntmps10
    go_wp2
    go_ret2
    exact ⟨by rw [HT.out]; rfl, Below.refl _ _⟩
  replace hv1 : v ≤ 35184372088832 := by omega
  by_cases hz : v = 0
  · subst hz
    have HT : Aside0 (textS 0 = some [48, 115]) := ⟨rfl⟩
    go_enter Tryd.func10, Tryd.ntmps10
    go_wp2
    go_ret2
    exact ⟨by rw [HT.out]; rfl, Below.refl _ _⟩
  have hb0 : (v == 0) = false := by simp [hz]
  obtain ⟨R, hR⟩ : ∃ R, R = textR unitsL v [] := ⟨_, rfl⟩
  have HT : Aside0 (textS v = some R) := ⟨by unfold textS; rw [if_neg (by omega), if_neg hz, hR]⟩
  have HRR := Aside0.mk hR
  clear hR
  have x0 := ix0
  have x1 := ix1
  have x2 := ix2
  have x3 := ix3
  have x4 := ix4
  have x5 := ix5
  have x6 := ix6
  go_enter Tryd.func10, Tryd.ntmps10
  go_wp2
  go_loopw [0, 4, 18] (fun v0 v4 v18 w' => ∃ (i : Nat) (u : Int) (out : List UInt8), v0 = .int .i64 u ∧ v4 = .string (bs out) ∧ v18 = .int .i64 i ∧ i ≤ 7 ∧ 0 ≤ u ∧ u ≤ 35184372088832 ∧ out.length ≤ i * 30 ∧ Aside0 (textR (unitsL.drop i) u out = R) ∧ Aside0 (Below w.heap.size w w')) (fun _ _ v18 _ => 7 - (intOf v18).toNat)
  case atStart => exact ⟨0, v, [], rfl, rfl, rfl, by omega, hv0, hv1, by simp, ⟨HRR.out.symm⟩, ⟨Below.refl _ _⟩⟩
  case round =>
    obtain ⟨i, u, out, rfl, rfl, rfl, hi7, hu0, hu1, hol, HR, HB⟩ := hrel
    have hr := HR.out
    clear HR HRR
    have hi : i = 0 ∨ i = 1 ∨ i = 2 ∨ i = 3 ∨ i = 4 ∨ i = 5 ∨ i = 6 ∨ i = 7 := by omega
    have hos := bs_size out
    rcases hi with rfl | rfl | rfl | rfl | rfl | rfl | rfl | rfl
    · rw [show unitsL.drop 0 = ([121], 31536000000) :: unitsL.drop 1 from rfl, textR] at hr
      obtain ⟨m, hm⟩ : ∃ m, u.tmod 31536000000 = m := ⟨_, rfl⟩
      have hm2 : 0 ≤ m ∧ m ≤ u := by rw [← hm, Int.tmod_eq_emod_of_nonneg hu0]; omega
      have z2 : IntKind.i64.wrap m = m := IntWalk.i64_in _ (by omega)
      obtain ⟨q, hq⟩ : ∃ q, u.tdiv 31536000000 = q := ⟨_, rfl⟩
      have hq2 : 0 ≤ q ∧ q ≤ u := by rw [← hq, Int.tdiv_eq_ediv_of_nonneg hu0]; omega
      have z1 : IntKind.i64.wrap q = q := IntWalk.i64_in _ (by omega)
      rw [hm, hq] at hr
      by_cases hp : 0 < q
      · rw [if_pos hp] at hr
        have HR2 := Aside0.mk hr
        have HF : Aside0 (∀ w', Below w.heap.size w w' → Calls Tryd.prog 17 #[.int .i64 q, .int .i64 10] w' fun e w'' => e = .returned (.string (bs (Lib.itoa q))) ∧ Below w'.heap.size w' w'') := ⟨fun w' hb => format_any q (by omega) (by omega) w' (HPP.out.below hb)⟩
        have hil := Lib.itoa_length_le q (by omega) (by omega)
        have his := bs_size (Lib.itoa q)
        clear hr
        have HB3 := Aside0.mk (below_alloc HB.out (.cells #[.string ⟨#[121]⟩, .int .i64 31536000000] 44))
        have p0 : (wr.alloc (.cells #[.string ⟨#[121]⟩, .int .i64 31536000000] 44)).cell? ⟨wr.heap.size, 0, none⟩ = some (.string ⟨#[121]⟩) := by go_simp
        have p1 : (wr.alloc (.cells #[.string ⟨#[121]⟩, .int .i64 31536000000] 44)).cell? ⟨wr.heap.size, 1, none⟩ = some (.int .i64 31536000000) := by go_simp
        go_wp2_with (fail)
        go_region_held_law (fun w' => w'.cell? ⟨wr.heap.size, 0, none⟩ = some (.string ⟨#[121]⟩) ∧ w'.cell? ⟨wr.heap.size, 1, none⟩ = some (.int .i64 31536000000) ∧ Below w.heap.size w w')
          (first | exact ⟨p0, p1, HB3.out⟩ | exact ⟨p0, p1, below_drew HB3.out⟩ | (go_split_ands; exact ⟨pw_cell_below hbb (by assumption), pw_cell_below hbb (by assumption), below_step (by assumption) hbb⟩) | go_keep)
          (first | (go_at_call 17; refine (HF.out _ (by first | assumption | exact below_drew HB3.out | exact HB3.out | exact below_drew (by assumption))).mono ?_; rintro e w' ⟨rfl, hbb⟩))
        go_wp2
        refine ⟨?_, ?_⟩
        · exact ⟨1, m, out ++ (Lib.itoa q ++ [121]), rfl, by rw [show (⟨#[121]⟩ : ByteArray) = bs [121] from rfl, bs_app, bs_app], by go_num, by omega, by omega, by omega, by simp only [List.length_append, List.length_cons, List.length_nil]; omega, HR2, ⟨by first | assumption | exact below_step (below_drew HB3.out) hbb | exact below_drew (by assumption)⟩⟩
        · simp [intOf]
      · rw [if_neg (by omega)] at hr
        have HR2 := Aside0.mk hr
        clear hr
        go_wp2
        go_roundw
        case rel => exact ⟨1, m, out, rfl, rfl, rfl, by omega, by omega, by omega, by omega, HR2, ⟨below_alloc HB.out _⟩⟩
        case measure => simp [intOf]
    · rw [show unitsL.drop 1 = ([119], 604800000) :: unitsL.drop 2 from rfl, textR] at hr
      obtain ⟨m, hm⟩ : ∃ m, u.tmod 604800000 = m := ⟨_, rfl⟩
      have hm2 : 0 ≤ m ∧ m ≤ u := by rw [← hm, Int.tmod_eq_emod_of_nonneg hu0]; omega
      have z2 : IntKind.i64.wrap m = m := IntWalk.i64_in _ (by omega)
      obtain ⟨q, hq⟩ : ∃ q, u.tdiv 604800000 = q := ⟨_, rfl⟩
      have hq2 : 0 ≤ q ∧ q ≤ u := by rw [← hq, Int.tdiv_eq_ediv_of_nonneg hu0]; omega
      have z1 : IntKind.i64.wrap q = q := IntWalk.i64_in _ (by omega)
      rw [hm, hq] at hr
      by_cases hp : 0 < q
      · rw [if_pos hp] at hr
        have HR2 := Aside0.mk hr
        have HF : Aside0 (∀ w', Below w.heap.size w w' → Calls Tryd.prog 17 #[.int .i64 q, .int .i64 10] w' fun e w'' => e = .returned (.string (bs (Lib.itoa q))) ∧ Below w'.heap.size w' w'') := ⟨fun w' hb => format_any q (by omega) (by omega) w' (HPP.out.below hb)⟩
        have hil := Lib.itoa_length_le q (by omega) (by omega)
        have his := bs_size (Lib.itoa q)
        clear hr
        have HB3 := Aside0.mk (below_alloc HB.out (.cells #[.string ⟨#[119]⟩, .int .i64 604800000] 44))
        have p0 : (wr.alloc (.cells #[.string ⟨#[119]⟩, .int .i64 604800000] 44)).cell? ⟨wr.heap.size, 0, none⟩ = some (.string ⟨#[119]⟩) := by go_simp
        have p1 : (wr.alloc (.cells #[.string ⟨#[119]⟩, .int .i64 604800000] 44)).cell? ⟨wr.heap.size, 1, none⟩ = some (.int .i64 604800000) := by go_simp
        go_wp2_with (fail)
        go_region_held_law (fun w' => w'.cell? ⟨wr.heap.size, 0, none⟩ = some (.string ⟨#[119]⟩) ∧ w'.cell? ⟨wr.heap.size, 1, none⟩ = some (.int .i64 604800000) ∧ Below w.heap.size w w')
          (first | exact ⟨p0, p1, HB3.out⟩ | exact ⟨p0, p1, below_drew HB3.out⟩ | (go_split_ands; exact ⟨pw_cell_below hbb (by assumption), pw_cell_below hbb (by assumption), below_step (by assumption) hbb⟩) | go_keep)
          (first | (go_at_call 17; refine (HF.out _ (by first | assumption | exact below_drew HB3.out | exact HB3.out | exact below_drew (by assumption))).mono ?_; rintro e w' ⟨rfl, hbb⟩))
        go_wp2
        refine ⟨?_, ?_⟩
        · exact ⟨2, m, out ++ (Lib.itoa q ++ [119]), rfl, by rw [show (⟨#[119]⟩ : ByteArray) = bs [119] from rfl, bs_app, bs_app], by go_num, by omega, by omega, by omega, by simp only [List.length_append, List.length_cons, List.length_nil]; omega, HR2, ⟨by first | assumption | exact below_step (below_drew HB3.out) hbb | exact below_drew (by assumption)⟩⟩
        · simp [intOf]
      · rw [if_neg (by omega)] at hr
        have HR2 := Aside0.mk hr
        clear hr
        go_wp2
        go_roundw
        case rel => exact ⟨2, m, out, rfl, rfl, rfl, by omega, by omega, by omega, by omega, HR2, ⟨below_alloc HB.out _⟩⟩
        case measure => simp [intOf]
    · rw [show unitsL.drop 2 = ([100], 86400000) :: unitsL.drop 3 from rfl, textR] at hr
      obtain ⟨m, hm⟩ : ∃ m, u.tmod 86400000 = m := ⟨_, rfl⟩
      have hm2 : 0 ≤ m ∧ m ≤ u := by rw [← hm, Int.tmod_eq_emod_of_nonneg hu0]; omega
      have z2 : IntKind.i64.wrap m = m := IntWalk.i64_in _ (by omega)
      obtain ⟨q, hq⟩ : ∃ q, u.tdiv 86400000 = q := ⟨_, rfl⟩
      have hq2 : 0 ≤ q ∧ q ≤ u := by rw [← hq, Int.tdiv_eq_ediv_of_nonneg hu0]; omega
      have z1 : IntKind.i64.wrap q = q := IntWalk.i64_in _ (by omega)
      rw [hm, hq] at hr
      by_cases hp : 0 < q
      · rw [if_pos hp] at hr
        have HR2 := Aside0.mk hr
        have HF : Aside0 (∀ w', Below w.heap.size w w' → Calls Tryd.prog 17 #[.int .i64 q, .int .i64 10] w' fun e w'' => e = .returned (.string (bs (Lib.itoa q))) ∧ Below w'.heap.size w' w'') := ⟨fun w' hb => format_any q (by omega) (by omega) w' (HPP.out.below hb)⟩
        have hil := Lib.itoa_length_le q (by omega) (by omega)
        have his := bs_size (Lib.itoa q)
        clear hr
        have HB3 := Aside0.mk (below_alloc HB.out (.cells #[.string ⟨#[100]⟩, .int .i64 86400000] 44))
        have p0 : (wr.alloc (.cells #[.string ⟨#[100]⟩, .int .i64 86400000] 44)).cell? ⟨wr.heap.size, 0, none⟩ = some (.string ⟨#[100]⟩) := by go_simp
        have p1 : (wr.alloc (.cells #[.string ⟨#[100]⟩, .int .i64 86400000] 44)).cell? ⟨wr.heap.size, 1, none⟩ = some (.int .i64 86400000) := by go_simp
        go_wp2_with (fail)
        go_region_held_law (fun w' => w'.cell? ⟨wr.heap.size, 0, none⟩ = some (.string ⟨#[100]⟩) ∧ w'.cell? ⟨wr.heap.size, 1, none⟩ = some (.int .i64 86400000) ∧ Below w.heap.size w w')
          (first | exact ⟨p0, p1, HB3.out⟩ | exact ⟨p0, p1, below_drew HB3.out⟩ | (go_split_ands; exact ⟨pw_cell_below hbb (by assumption), pw_cell_below hbb (by assumption), below_step (by assumption) hbb⟩) | go_keep)
          (first | (go_at_call 17; refine (HF.out _ (by first | assumption | exact below_drew HB3.out | exact HB3.out | exact below_drew (by assumption))).mono ?_; rintro e w' ⟨rfl, hbb⟩))
        go_wp2
        refine ⟨?_, ?_⟩
        · exact ⟨3, m, out ++ (Lib.itoa q ++ [100]), rfl, by rw [show (⟨#[100]⟩ : ByteArray) = bs [100] from rfl, bs_app, bs_app], by go_num, by omega, by omega, by omega, by simp only [List.length_append, List.length_cons, List.length_nil]; omega, HR2, ⟨by first | assumption | exact below_step (below_drew HB3.out) hbb | exact below_drew (by assumption)⟩⟩
        · simp [intOf]
      · rw [if_neg (by omega)] at hr
        have HR2 := Aside0.mk hr
        clear hr
        go_wp2
        go_roundw
        case rel => exact ⟨3, m, out, rfl, rfl, rfl, by omega, by omega, by omega, by omega, HR2, ⟨below_alloc HB.out _⟩⟩
        case measure => simp [intOf]
    · rw [show unitsL.drop 3 = ([104], 3600000) :: unitsL.drop 4 from rfl, textR] at hr
      obtain ⟨m, hm⟩ : ∃ m, u.tmod 3600000 = m := ⟨_, rfl⟩
      have hm2 : 0 ≤ m ∧ m ≤ u := by rw [← hm, Int.tmod_eq_emod_of_nonneg hu0]; omega
      have z2 : IntKind.i64.wrap m = m := IntWalk.i64_in _ (by omega)
      obtain ⟨q, hq⟩ : ∃ q, u.tdiv 3600000 = q := ⟨_, rfl⟩
      have hq2 : 0 ≤ q ∧ q ≤ u := by rw [← hq, Int.tdiv_eq_ediv_of_nonneg hu0]; omega
      have z1 : IntKind.i64.wrap q = q := IntWalk.i64_in _ (by omega)
      rw [hm, hq] at hr
      by_cases hp : 0 < q
      · rw [if_pos hp] at hr
        have HR2 := Aside0.mk hr
        have HF : Aside0 (∀ w', Below w.heap.size w w' → Calls Tryd.prog 17 #[.int .i64 q, .int .i64 10] w' fun e w'' => e = .returned (.string (bs (Lib.itoa q))) ∧ Below w'.heap.size w' w'') := ⟨fun w' hb => format_any q (by omega) (by omega) w' (HPP.out.below hb)⟩
        have hil := Lib.itoa_length_le q (by omega) (by omega)
        have his := bs_size (Lib.itoa q)
        clear hr
        have HB3 := Aside0.mk (below_alloc HB.out (.cells #[.string ⟨#[104]⟩, .int .i64 3600000] 44))
        have p0 : (wr.alloc (.cells #[.string ⟨#[104]⟩, .int .i64 3600000] 44)).cell? ⟨wr.heap.size, 0, none⟩ = some (.string ⟨#[104]⟩) := by go_simp
        have p1 : (wr.alloc (.cells #[.string ⟨#[104]⟩, .int .i64 3600000] 44)).cell? ⟨wr.heap.size, 1, none⟩ = some (.int .i64 3600000) := by go_simp
        go_wp2_with (fail)
        go_region_held_law (fun w' => w'.cell? ⟨wr.heap.size, 0, none⟩ = some (.string ⟨#[104]⟩) ∧ w'.cell? ⟨wr.heap.size, 1, none⟩ = some (.int .i64 3600000) ∧ Below w.heap.size w w')
          (first | exact ⟨p0, p1, HB3.out⟩ | exact ⟨p0, p1, below_drew HB3.out⟩ | (go_split_ands; exact ⟨pw_cell_below hbb (by assumption), pw_cell_below hbb (by assumption), below_step (by assumption) hbb⟩) | go_keep)
          (first | (go_at_call 17; refine (HF.out _ (by first | assumption | exact below_drew HB3.out | exact HB3.out | exact below_drew (by assumption))).mono ?_; rintro e w' ⟨rfl, hbb⟩))
        go_wp2
        refine ⟨?_, ?_⟩
        · exact ⟨4, m, out ++ (Lib.itoa q ++ [104]), rfl, by rw [show (⟨#[104]⟩ : ByteArray) = bs [104] from rfl, bs_app, bs_app], by go_num, by omega, by omega, by omega, by simp only [List.length_append, List.length_cons, List.length_nil]; omega, HR2, ⟨by first | assumption | exact below_step (below_drew HB3.out) hbb | exact below_drew (by assumption)⟩⟩
        · simp [intOf]
      · rw [if_neg (by omega)] at hr
        have HR2 := Aside0.mk hr
        clear hr
        go_wp2
        go_roundw
        case rel => exact ⟨4, m, out, rfl, rfl, rfl, by omega, by omega, by omega, by omega, HR2, ⟨below_alloc HB.out _⟩⟩
        case measure => simp [intOf]
    · rw [show unitsL.drop 4 = ([109], 60000) :: unitsL.drop 5 from rfl, textR] at hr
      obtain ⟨m, hm⟩ : ∃ m, u.tmod 60000 = m := ⟨_, rfl⟩
      have hm2 : 0 ≤ m ∧ m ≤ u := by rw [← hm, Int.tmod_eq_emod_of_nonneg hu0]; omega
      have z2 : IntKind.i64.wrap m = m := IntWalk.i64_in _ (by omega)
      obtain ⟨q, hq⟩ : ∃ q, u.tdiv 60000 = q := ⟨_, rfl⟩
      have hq2 : 0 ≤ q ∧ q ≤ u := by rw [← hq, Int.tdiv_eq_ediv_of_nonneg hu0]; omega
      have z1 : IntKind.i64.wrap q = q := IntWalk.i64_in _ (by omega)
      rw [hm, hq] at hr
      by_cases hp : 0 < q
      · rw [if_pos hp] at hr
        have HR2 := Aside0.mk hr
        have HF : Aside0 (∀ w', Below w.heap.size w w' → Calls Tryd.prog 17 #[.int .i64 q, .int .i64 10] w' fun e w'' => e = .returned (.string (bs (Lib.itoa q))) ∧ Below w'.heap.size w' w'') := ⟨fun w' hb => format_any q (by omega) (by omega) w' (HPP.out.below hb)⟩
        have hil := Lib.itoa_length_le q (by omega) (by omega)
        have his := bs_size (Lib.itoa q)
        clear hr
        have HB3 := Aside0.mk (below_alloc HB.out (.cells #[.string ⟨#[109]⟩, .int .i64 60000] 44))
        have p0 : (wr.alloc (.cells #[.string ⟨#[109]⟩, .int .i64 60000] 44)).cell? ⟨wr.heap.size, 0, none⟩ = some (.string ⟨#[109]⟩) := by go_simp
        have p1 : (wr.alloc (.cells #[.string ⟨#[109]⟩, .int .i64 60000] 44)).cell? ⟨wr.heap.size, 1, none⟩ = some (.int .i64 60000) := by go_simp
        go_wp2_with (fail)
        go_region_held_law (fun w' => w'.cell? ⟨wr.heap.size, 0, none⟩ = some (.string ⟨#[109]⟩) ∧ w'.cell? ⟨wr.heap.size, 1, none⟩ = some (.int .i64 60000) ∧ Below w.heap.size w w')
          (first | exact ⟨p0, p1, HB3.out⟩ | exact ⟨p0, p1, below_drew HB3.out⟩ | (go_split_ands; exact ⟨pw_cell_below hbb (by assumption), pw_cell_below hbb (by assumption), below_step (by assumption) hbb⟩) | go_keep)
          (first | (go_at_call 17; refine (HF.out _ (by first | assumption | exact below_drew HB3.out | exact HB3.out | exact below_drew (by assumption))).mono ?_; rintro e w' ⟨rfl, hbb⟩))
        go_wp2
        refine ⟨?_, ?_⟩
        · exact ⟨5, m, out ++ (Lib.itoa q ++ [109]), rfl, by rw [show (⟨#[109]⟩ : ByteArray) = bs [109] from rfl, bs_app, bs_app], by go_num, by omega, by omega, by omega, by simp only [List.length_append, List.length_cons, List.length_nil]; omega, HR2, ⟨by first | assumption | exact below_step (below_drew HB3.out) hbb | exact below_drew (by assumption)⟩⟩
        · simp [intOf]
      · rw [if_neg (by omega)] at hr
        have HR2 := Aside0.mk hr
        clear hr
        go_wp2
        go_roundw
        case rel => exact ⟨5, m, out, rfl, rfl, rfl, by omega, by omega, by omega, by omega, HR2, ⟨below_alloc HB.out _⟩⟩
        case measure => simp [intOf]
    · rw [show unitsL.drop 5 = ([115], 1000) :: unitsL.drop 6 from rfl, textR] at hr
      obtain ⟨m, hm⟩ : ∃ m, u.tmod 1000 = m := ⟨_, rfl⟩
      have hm2 : 0 ≤ m ∧ m ≤ u := by rw [← hm, Int.tmod_eq_emod_of_nonneg hu0]; omega
      have z2 : IntKind.i64.wrap m = m := IntWalk.i64_in _ (by omega)
      obtain ⟨q, hq⟩ : ∃ q, u.tdiv 1000 = q := ⟨_, rfl⟩
      have hq2 : 0 ≤ q ∧ q ≤ u := by rw [← hq, Int.tdiv_eq_ediv_of_nonneg hu0]; omega
      have z1 : IntKind.i64.wrap q = q := IntWalk.i64_in _ (by omega)
      rw [hm, hq] at hr
      by_cases hp : 0 < q
      · rw [if_pos hp] at hr
        have HR2 := Aside0.mk hr
        have HF : Aside0 (∀ w', Below w.heap.size w w' → Calls Tryd.prog 17 #[.int .i64 q, .int .i64 10] w' fun e w'' => e = .returned (.string (bs (Lib.itoa q))) ∧ Below w'.heap.size w' w'') := ⟨fun w' hb => format_any q (by omega) (by omega) w' (HPP.out.below hb)⟩
        have hil := Lib.itoa_length_le q (by omega) (by omega)
        have his := bs_size (Lib.itoa q)
        clear hr
        have HB3 := Aside0.mk (below_alloc HB.out (.cells #[.string ⟨#[115]⟩, .int .i64 1000] 44))
        have p0 : (wr.alloc (.cells #[.string ⟨#[115]⟩, .int .i64 1000] 44)).cell? ⟨wr.heap.size, 0, none⟩ = some (.string ⟨#[115]⟩) := by go_simp
        have p1 : (wr.alloc (.cells #[.string ⟨#[115]⟩, .int .i64 1000] 44)).cell? ⟨wr.heap.size, 1, none⟩ = some (.int .i64 1000) := by go_simp
        go_wp2_with (fail)
        go_region_held_law (fun w' => w'.cell? ⟨wr.heap.size, 0, none⟩ = some (.string ⟨#[115]⟩) ∧ w'.cell? ⟨wr.heap.size, 1, none⟩ = some (.int .i64 1000) ∧ Below w.heap.size w w')
          (first | exact ⟨p0, p1, HB3.out⟩ | exact ⟨p0, p1, below_drew HB3.out⟩ | (go_split_ands; exact ⟨pw_cell_below hbb (by assumption), pw_cell_below hbb (by assumption), below_step (by assumption) hbb⟩) | go_keep)
          (first | (go_at_call 17; refine (HF.out _ (by first | assumption | exact below_drew HB3.out | exact HB3.out | exact below_drew (by assumption))).mono ?_; rintro e w' ⟨rfl, hbb⟩))
        go_wp2
        refine ⟨?_, ?_⟩
        · exact ⟨6, m, out ++ (Lib.itoa q ++ [115]), rfl, by rw [show (⟨#[115]⟩ : ByteArray) = bs [115] from rfl, bs_app, bs_app], by go_num, by omega, by omega, by omega, by simp only [List.length_append, List.length_cons, List.length_nil]; omega, HR2, ⟨by first | assumption | exact below_step (below_drew HB3.out) hbb | exact below_drew (by assumption)⟩⟩
        · simp [intOf]
      · rw [if_neg (by omega)] at hr
        have HR2 := Aside0.mk hr
        clear hr
        go_wp2
        go_roundw
        case rel => exact ⟨6, m, out, rfl, rfl, rfl, by omega, by omega, by omega, by omega, HR2, ⟨below_alloc HB.out _⟩⟩
        case measure => simp [intOf]
    · rw [show unitsL.drop 6 = ([109, 115], 1) :: unitsL.drop 7 from rfl, textR] at hr
      obtain ⟨m, hm⟩ : ∃ m, u.tmod 1 = m := ⟨_, rfl⟩
      have hm2 : 0 ≤ m ∧ m ≤ u := by rw [← hm, Int.tmod_eq_emod_of_nonneg hu0]; omega
      have z2 : IntKind.i64.wrap m = m := IntWalk.i64_in _ (by omega)
      obtain ⟨q, hq⟩ : ∃ q, u.tdiv 1 = q := ⟨_, rfl⟩
      have hq2 : 0 ≤ q ∧ q ≤ u := by rw [← hq, Int.tdiv_eq_ediv_of_nonneg hu0]; omega
      have z1 : IntKind.i64.wrap q = q := IntWalk.i64_in _ (by omega)
      rw [hm, hq] at hr
      have hq1 : q = u := by rw [← hq, Int.tdiv_one]
      have hm1 : m = 0 := by rw [← hm, Int.tmod_one]
      subst hq1
      subst hm1
      by_cases hp : 0 < q
      · rw [if_pos hp] at hr
        have HR2 := Aside0.mk hr
        have HF : Aside0 (∀ w', Below w.heap.size w w' → Calls Tryd.prog 17 #[.int .i64 q, .int .i64 10] w' fun e w'' => e = .returned (.string (bs (Lib.itoa q))) ∧ Below w'.heap.size w' w'') := ⟨fun w' hb => format_any q (by omega) (by omega) w' (HPP.out.below hb)⟩
        have hil := Lib.itoa_length_le q (by omega) (by omega)
        have his := bs_size (Lib.itoa q)
        clear hr
        have HB3 := Aside0.mk (below_alloc HB.out (.cells #[.string ⟨#[109, 115]⟩, .int .i64 1] 44))
        have p0 : (wr.alloc (.cells #[.string ⟨#[109, 115]⟩, .int .i64 1] 44)).cell? ⟨wr.heap.size, 0, none⟩ = some (.string ⟨#[109, 115]⟩) := by go_simp
        have p1 : (wr.alloc (.cells #[.string ⟨#[109, 115]⟩, .int .i64 1] 44)).cell? ⟨wr.heap.size, 1, none⟩ = some (.int .i64 1) := by go_simp
        go_wp2_with (fail)
        go_region_held_law (fun w' => w'.cell? ⟨wr.heap.size, 0, none⟩ = some (.string ⟨#[109, 115]⟩) ∧ w'.cell? ⟨wr.heap.size, 1, none⟩ = some (.int .i64 1) ∧ Below w.heap.size w w')
          (first | exact ⟨p0, p1, HB3.out⟩ | exact ⟨p0, p1, below_drew HB3.out⟩ | (go_split_ands; exact ⟨pw_cell_below hbb (by assumption), pw_cell_below hbb (by assumption), below_step (by assumption) hbb⟩) | go_keep)
          (first | (go_at_call 17; refine (HF.out _ (by first | assumption | exact below_drew HB3.out | exact HB3.out | exact below_drew (by assumption))).mono ?_; rintro e w' ⟨rfl, hbb⟩))
        go_wp2
        refine ⟨?_, ?_⟩
        · exact ⟨7, 0, out ++ (Lib.itoa q ++ [109, 115]), rfl, by rw [show (⟨#[109, 115]⟩ : ByteArray) = bs [109, 115] from rfl, bs_app, bs_app], by go_num, by omega, by omega, by omega, by simp only [List.length_append, List.length_cons, List.length_nil]; omega, HR2, ⟨by first | assumption | exact below_step (below_drew HB3.out) hbb | exact below_drew (by assumption)⟩⟩
        · simp [intOf]
      · rw [if_neg (by omega)] at hr
        have HR2 := Aside0.mk hr
        clear hr
        go_wp2
        go_roundw
        case rel => exact ⟨7, 0, out, rfl, rfl, rfl, by omega, by omega, by omega, by omega, HR2, ⟨below_alloc HB.out _⟩⟩
        case measure => simp [intOf]
    · have HT2 : Aside0 (textS v = some out) := ⟨by rw [HT.out, ← hr]; rfl⟩
      clear hr HT
      go_wp2
      go_ret2
      exact ⟨by rw [HT2.out]; rfl, HB.out⟩
end Go.Proofs.YtpjbllkifjhknaaDoor.Pr
