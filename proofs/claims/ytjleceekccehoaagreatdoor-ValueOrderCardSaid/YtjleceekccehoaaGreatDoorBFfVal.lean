/- Texts of this session, cut down to what one claim needs and joined: FfVal. -/
import Derived.Test.YtjleceekccehoaaGreatDoorBFfPlain
import Derived.Test.YtjleceekccehoaaGreatDoorBFfParse1
set_option linter.unusedVariables false
set_option linter.unusedSimpArgs false
namespace Go.Proofs.YtjleceekccehoaaGreatDoor.Pr
open Go.RowKit Go.Proofs.YtjleceekccehoaaGreatDoorW.PrintWords Go.Proofs.YtjleceekccehoaaGreatDoorW.PrintLast Go.Proofs.YtjleceekccehoaaGreatDoorW.PrintMore

theorem fbits_run (b : Nat) (w : World) : (callFunc 37 #[.float .f64 b]).run Tryz.prog w = .ok (.value (.int .u64 b)) w := by
  rw [run_callFunc_extern Tryz.func37 (by kernel_rfl) (by kernel_rfl) (by kernel_rfl) (e := Extern.MathFloatBits.float64bits) (by kernel_rfl)]; rfl
attribute [local go_sem] fbits_run
theorem st_1e3_0 (g : Nat) (w0 w : World) (h : Box w0 w g [49, 101, 51]) : Calls Tryz.prog 63 #[.string ⟨#[45]⟩, .pointer (some ⟨g, 0, none⟩)] w fun e w' => e = .returned (.bool false) ∧ Box w0 w' g [49, 101, 51] := sign_any [45] [49, 101, 51] (by decide) g w0 w h false (by decide)
theorem st_1e3_1 (g : Nat) (w0 w : World) (h : Box w0 w g [49, 101, 51]) : Calls Tryz.prog 61 #[.pointer (some ⟨g, 0, none⟩)] w fun e w' => e = .returned (.int .i64 1) ∧ Box w0 w' g [101, 51] := digits_any [49, 101, 51] (by decide) g w0 w h
theorem st_1e3_2 (g : Nat) (w0 w : World) (h : Box w0 w g [101, 51]) : Calls Tryz.prog 63 #[.string ⟨#[46]⟩, .pointer (some ⟨g, 0, none⟩)] w fun e w' => e = .returned (.bool false) ∧ Box w0 w' g [101, 51] := sign_any [46] [101, 51] (by decide) g w0 w h false (by decide)
theorem st_1e3_3 (g : Nat) (w0 w : World) (h : Box w0 w g [101, 51]) : Calls Tryz.prog 63 #[.string ⟨#[101, 69]⟩, .pointer (some ⟨g, 0, none⟩)] w fun e w' => e = .returned (.bool true) ∧ Box w0 w' g [51] := sign_any [101, 69] [101, 51] (by decide) g w0 w h true (by decide)
theorem st_1e3_4 (g : Nat) (w0 w : World) (h : Box w0 w g [51]) : Calls Tryz.prog 63 #[.string ⟨#[43, 45]⟩, .pointer (some ⟨g, 0, none⟩)] w fun e w' => e = .returned (.bool false) ∧ Box w0 w' g [51] := sign_any [43, 45] [51] (by decide) g w0 w h false (by decide)
theorem st_1e3_5 (g : Nat) (w0 w : World) (h : Box w0 w g [51]) : Calls Tryz.prog 61 #[.pointer (some ⟨g, 0, none⟩)] w fun e w' => e = .returned (.int .i64 1) ∧ Box w0 w' g [] := digits_any [51] (by decide) g w0 w h
set_option maxHeartbeats 1000000 in
set_option maxRecDepth 100000 in
theorem plain_1e3 (w : World) : Calls Tryz.prog 39 #[.string ⟨#[49, 101, 51]⟩] w fun e w' => e = .returned (.bool true) ∧ Below w.heap.size w w' := by
  have HB := Aside0.mk (Box.new (w0 := w) w [49, 101, 51] (Below.refl _ _))

  have kk : (⟨#[]⟩ : ByteArray).toList.isEmpty = true := by rw [Lib.toList_data]; rfl
  go_enter Tryz.func39, Tryz.ntmps39
  go_wp2_with fail
  refine (st_1e3_0 _ w _ HB.out).mono ?_
  rintro e w0 ⟨rfl, hb_⟩
  have n0_ := Aside0.mk hb_; clear HB hb_; have HB := n0_; clear n0_
  go_wp2_with fail
  refine (st_1e3_1 _ w _ HB.out).mono ?_
  rintro e w1 ⟨rfl, hb_⟩
  have n0_ := Aside0.mk hb_; clear HB hb_; have HB := n0_; clear n0_
  go_wp2_with fail
  refine (st_1e3_2 _ w _ HB.out).mono ?_
  rintro e w2 ⟨rfl, hb_⟩
  have n0_ := Aside0.mk hb_; clear HB hb_; have HB := n0_; clear n0_
  go_wp2_with fail
  refine (st_1e3_3 _ w _ HB.out).mono ?_
  rintro e w3 ⟨rfl, hb_⟩
  have n0_ := Aside0.mk hb_; clear HB hb_; have HB := n0_; clear n0_
  go_wp2_with fail
  refine (st_1e3_4 _ w _ HB.out).mono ?_
  rintro e w4 ⟨rfl, hb_⟩
  have n0_ := Aside0.mk hb_; clear HB hb_; have HB := n0_; clear n0_
  go_wp2_with fail
  refine (st_1e3_5 _ w _ HB.out).mono ?_
  rintro e w5 ⟨rfl, hb_⟩
  have n0_ := Aside0.mk hb_; clear HB hb_; have HB := n0_; clear n0_
  have c0 := HB.out.cell
  go_wp2_with fail
  go_ret
  exact ⟨by first | rfl | (simp; done) | (simp [bs]; done), HB.out.bel⟩
theorem st_1e_0 (g : Nat) (w0 w : World) (h : Box w0 w g [49, 101]) : Calls Tryz.prog 63 #[.string ⟨#[45]⟩, .pointer (some ⟨g, 0, none⟩)] w fun e w' => e = .returned (.bool false) ∧ Box w0 w' g [49, 101] := sign_any [45] [49, 101] (by decide) g w0 w h false (by decide)
theorem st_1e_1 (g : Nat) (w0 w : World) (h : Box w0 w g [49, 101]) : Calls Tryz.prog 61 #[.pointer (some ⟨g, 0, none⟩)] w fun e w' => e = .returned (.int .i64 1) ∧ Box w0 w' g [101] := digits_any [49, 101] (by decide) g w0 w h
theorem st_1e_2 (g : Nat) (w0 w : World) (h : Box w0 w g [101]) : Calls Tryz.prog 63 #[.string ⟨#[46]⟩, .pointer (some ⟨g, 0, none⟩)] w fun e w' => e = .returned (.bool false) ∧ Box w0 w' g [101] := sign_any [46] [101] (by decide) g w0 w h false (by decide)
theorem st_1e_3 (g : Nat) (w0 w : World) (h : Box w0 w g [101]) : Calls Tryz.prog 63 #[.string ⟨#[101, 69]⟩, .pointer (some ⟨g, 0, none⟩)] w fun e w' => e = .returned (.bool true) ∧ Box w0 w' g [] := sign_any [101, 69] [101] (by decide) g w0 w h true (by decide)
theorem st_1e_4 (g : Nat) (w0 w : World) (h : Box w0 w g []) : Calls Tryz.prog 63 #[.string ⟨#[43, 45]⟩, .pointer (some ⟨g, 0, none⟩)] w fun e w' => e = .returned (.bool false) ∧ Box w0 w' g [] := sign_any [43, 45] [] (by decide) g w0 w h false (by decide)
theorem st_1e_5 (g : Nat) (w0 w : World) (h : Box w0 w g []) : Calls Tryz.prog 61 #[.pointer (some ⟨g, 0, none⟩)] w fun e w' => e = .returned (.int .i64 0) ∧ Box w0 w' g [] := digits_any [] (by decide) g w0 w h
set_option maxHeartbeats 1000000 in
set_option maxRecDepth 100000 in
theorem plain_1e (w : World) : Calls Tryz.prog 39 #[.string ⟨#[49, 101]⟩] w fun e w' => e = .returned (.bool false) ∧ Below w.heap.size w w' := by
  have HB := Aside0.mk (Box.new (w0 := w) w [49, 101] (Below.refl _ _))

  have kk : (⟨#[]⟩ : ByteArray).toList.isEmpty = true := by rw [Lib.toList_data]; rfl
  go_enter Tryz.func39, Tryz.ntmps39
  go_wp2_with fail
  refine (st_1e_0 _ w _ HB.out).mono ?_
  rintro e w0 ⟨rfl, hb_⟩
  have n0_ := Aside0.mk hb_; clear HB hb_; have HB := n0_; clear n0_
  go_wp2_with fail
  refine (st_1e_1 _ w _ HB.out).mono ?_
  rintro e w1 ⟨rfl, hb_⟩
  have n0_ := Aside0.mk hb_; clear HB hb_; have HB := n0_; clear n0_
  go_wp2_with fail
  refine (st_1e_2 _ w _ HB.out).mono ?_
  rintro e w2 ⟨rfl, hb_⟩
  have n0_ := Aside0.mk hb_; clear HB hb_; have HB := n0_; clear n0_
  go_wp2_with fail
  refine (st_1e_3 _ w _ HB.out).mono ?_
  rintro e w3 ⟨rfl, hb_⟩
  have n0_ := Aside0.mk hb_; clear HB hb_; have HB := n0_; clear n0_
  go_wp2_with fail
  refine (st_1e_4 _ w _ HB.out).mono ?_
  rintro e w4 ⟨rfl, hb_⟩
  have n0_ := Aside0.mk hb_; clear HB hb_; have HB := n0_; clear n0_
  go_wp2_with fail
  refine (st_1e_5 _ w _ HB.out).mono ?_
  rintro e w5 ⟨rfl, hb_⟩
  have n0_ := Aside0.mk hb_; clear HB hb_; have HB := n0_; clear n0_
  have c0 := HB.out.cell
  go_wp2_with fail
  go_ret
  exact ⟨by first | rfl | (simp; done) | (simp [bs]; done), HB.out.bel⟩
set_option maxHeartbeats 1000000 in
set_option maxRecDepth 100000 in
theorem value_1e3 (w : World) (hG : LaidG w) : Calls Tryz.prog 23 #[.string ⟨#[49, 101, 51]⟩] w fun e w' => e = .returned (.tuple #[.int .u64 4652007308841189376, .nilIface]) ∧ Below w.heap.size w w' := by
  have HG := Aside0.mk hG
  clear hG
  have HB := Aside0.mk (Below.refl w.heap.size w)
  go_enter Tryz.func23, Tryz.ntmps23
  go_wp2_with (first | (go_at_call 39; refine (plain_1e3 _).mono ?_; rintro e w1 ⟨rfl, hb_⟩; have n0_ := Aside0.mk (below_step HB.out hb_); clear HB hb_; have HB := n0_; clear n0_) | (go_at_call 40; refine (parse_1e3 _ (HG.out.below HB.out)).mono ?_; rintro e w2 ⟨rfl, ⟨m2, rfl⟩⟩))
  go_ret2
  exact ⟨by first | rfl | (simp; done), pw_below_drewN HB.out _⟩
set_option maxHeartbeats 1000000 in
set_option maxRecDepth 100000 in
theorem value_1e (w : World) : Calls Tryz.prog 23 #[.string ⟨#[49, 101]⟩] w fun e w' => e = .returned (.tuple #[.int .u64 0, .iface 55 (.int .i64 13)]) ∧ Below w.heap.size w w' := by
  have HB := Aside0.mk (Below.refl w.heap.size w)
  go_enter Tryz.func23, Tryz.ntmps23
  go_wp2_with (first | (go_at_call 39; refine (plain_1e _).mono ?_; rintro e w1 ⟨rfl, hb_⟩; have n0_ := Aside0.mk (below_step HB.out hb_); clear HB hb_; have HB := n0_; clear n0_))
  go_ret2
  exact ⟨by first | rfl | (simp; done), HB.out⟩
end Go.Proofs.YtjleceekccehoaaGreatDoor.Pr
