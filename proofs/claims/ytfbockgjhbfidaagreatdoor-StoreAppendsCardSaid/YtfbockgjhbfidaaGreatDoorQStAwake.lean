/- Texts of this session, cut down to what one claim needs and joined: StAwake. -/
import Derived.Test.YtfbockgjhbfidaaGreatDoorQStApp4
import Derived.Test.YtfbockgjhbfidaaGreatDoorQStPure1
import Derived.Test.YtfbockgjhbfidaaGreatDoorQGPs
import Derived.Test.YtfbockgjhbfidaaGreatDoorQGLaid
import Derived.BigQuiet
set_option linter.unusedVariables false
set_option linter.unusedSimpArgs false
namespace Go.Proofs.YtfbockgjhbfidaaGreatDoor.Pr
open Go.RowKit Go.Proofs.YtfbockgjhbfidaaGreatDoorW.PrintWords Go.Proofs.YtfbockgjhbfidaaGreatDoorW.PrintLast Go.Proofs.YtfbockgjhbfidaaGreatDoorW.PrintMore

theorem append_ins (s : List Ser) (l m : Lbs) (t v : Int) (hr : RightP s) (hm : makeV (sortL l) = (m, none)) (h0 : 0 < m.length) (ht : TimP t) : appendV s l t v = match ins m t (normI v) s with | some o => (o, none) | none => ([], some 3) := by
 unfold appendV
 rw [if_pos hr, hm]
 dsimp only
 rw [if_neg (by omega), if_pos ht]
 exact put_ins m t v s hr.2
def laA : Lbs := [⟨⟨#[97]⟩, ⟨#[49]⟩⟩]
theorem laA_make : makeV (sortL laA) = (laA, none) := by kernel_rfl
theorem norm7 : normI 7 = 7 := by kernel_rfl
theorem right_nil : RightP [] := ⟨fun _ h => (by cases h), List.Pairwise.nil⟩
theorem laA_right : rightB laA = true := by kernel_rfl
theorem awake_one : appendV [] laA 5 7 = ([newS laA 5 7], none) := by
 rw [append_ins [] laA laA 5 7 right_nil laA_make (Nat.succ_pos 0) ⟨by decide, by decide⟩, norm7]; rfl
theorem awake_two : appendV [newS laA 5 7] laA 5 0 = ([], some 3) := by
 rw [append_ins _ laA laA 5 0 (ins_right laA 5 7 (Nat.succ_pos 0) laA_right ⟨⟨by decide, by decide⟩, norm7⟩ [] _ right_nil rfl) laA_make (Nat.succ_pos 0) ⟨by decide, by decide⟩]
 have : ins laA 5 (normI 0) [newS laA 5 7] = none := by
  show (if cmpLs laA laA < 0 then _ else if cmpLs laA laA = 0 then _ else _) = _
  rw [cmpLs_self, if_neg (by decide), if_pos rfl]
  exact if_pos (by decide)
 rw [this]
theorem laA_small : smallL laA := ⟨by decide, fun x hx => by obtain rfl := List.mem_singleton.1 hx; decide⟩
theorem okS_nil : okS [] := ⟨by decide, fun _ h => (by cases h)⟩
theorem okS_one (t nv : Int) : okS [newS laA t nv] := ⟨(by show 1 ≤ 1000000; decide), fun x hx => by obtain rfl := List.mem_singleton.1 hx; exact ⟨laA_small, (by show 1 ≤ 1000000; decide)⟩⟩
theorem C_laA (w : World) (b : Nat) (h : w.heap[b]? = some (.cells #[.string ⟨#[97]⟩, .string ⟨#[49]⟩] 44 (0, 0))) : Kd.C k44 w (some ⟨b, 0, none⟩) 1 laA := ⟨rfl, by decide, fun _ => ⟨_, rfl, fun j p hj => by
 cases j with
 | zero =>
  obtain rfl : (⟨⟨#[97]⟩, ⟨#[49]⟩⟩ : S44) = p := by simpa [laA] using hj
  refine ⟨[.string ⟨#[97]⟩, .string ⟨#[49]⟩], rfl, k44_mk w _, fun i u hu => ?_⟩
  rw [Nat.zero_mul, Nat.zero_add, add_plain, (row_cells h i).1, List.getElem?_toArray]
  exact hu
 | succ j => simp [laA] at hj⟩⟩
attribute [local go_sem] errW_none errW_some
attribute [local go_sem high] eqA26
set_option maxHeartbeats 4000000 in
set_option maxRecDepth 100000 in
theorem awake05 (w : World) (hL : LaidAll w) : Calls Tryz.prog 4 #[] w fun e w' => e = .returned (.bool true) ∧ Below w.heap.size w w' := by
 have HL := Aside0.mk hL
 obtain ⟨w0, hw0⟩ : ∃ w0, w0 = w.alloc (.cells #[.string ⟨#[97]⟩, .string ⟨#[49]⟩] 44) := ⟨_, rfl⟩
 have HB0 : Aside0 (Below w.heap.size w w0) := ⟨by rw [hw0]; exact below_alloc (Below.refl _ _) _⟩
 have HC0 : Aside0 (Kd.C k44 w0 (some ⟨w.heap.size, 0, none⟩) 1 laA) := ⟨by rw [hw0]; exact C_laA _ _ (heap_alloc_new w _)⟩
 have HW0 := Aside0.mk hw0
 clear hL hw0
 go_enter Tryz.func4, Tryz.ntmps4
 go_wp2_with (first
  | (go_at_call 8; rw [← HW0.out]; refine (append_any none 0 [] (some ⟨w.heap.size, 0, none⟩) 1 laA 5 7 _ (HL.out.below HB0.out) (C_none _ 0) (Nat.le_refl _) HC0.out (Nat.le_refl _) okS_nil laA_small).mono ?_; rw [awake_one]; rintro e w2 ⟨A2, c2, rfl, hc2, hC2, hb2⟩; have HB2 := Aside0.mk (below_step HB0.out hb2); have HC2 := Aside0.mk hC2; have HLE2 := Aside0.mk hc2; have HCL2 := Aside0.mk (Kd.C_below HC0.out hb2); clear hb2 hC2 hc2 HW0)
  | (go_at_call 8; refine (append_any A2 c2 [newS laA 5 7] (some ⟨w.heap.size, 0, none⟩) 1 laA 5 0 _ (HL.out.below HB2.out) HC2.out HLE2.out HCL2.out (Nat.le_refl _) (okS_one 5 7) laA_small).mono ?_; rw [awake_two]; rintro e w3 ⟨A3, c3, rfl, hc3, hC3, hb3⟩; have HB3 := Aside0.mk (below_step HB2.out hb3); have HC3 := Aside0.mk (Kd.C_below HC2.out hb3); clear hb3 hC3 hc3; obtain ⟨ad, B0, d0, B1, d1, hA, x0, x1, _, _, _, y⟩ := at_T47 HC3.out 0 (by decide) (by decide); obtain ⟨ae, hB, y0, y1⟩ := at_T26 y 0 (by decide) (by decide); subst hA hB; clear y HC3 HC2; replace x1 : w3.cell? ⟨ad.block, ad.off + 1, none⟩ = some (.slice (some ae) 1 d1) := x1; replace y0 : w3.cell? ae = some (.int .i64 5) := y0; replace y1 : w3.cell? ⟨ae.block, ae.off + 1, none⟩ = some (.int .u64 7) := y1; clear x0)
  | (go_at_call 12; refine (code_hit 3 (by decide) _ (HL.out.below HB3.out).1).mono ?_; rintro e w4 ⟨rfl, hb4⟩; have HB4 := Aside0.mk (below_step HB3.out hb4)))
 go_ret
 exact ⟨rfl, HB4.out⟩
end Go.Proofs.YtfbockgjhbfidaaGreatDoor.Pr
