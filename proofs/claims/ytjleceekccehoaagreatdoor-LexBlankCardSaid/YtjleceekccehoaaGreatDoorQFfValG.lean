/- Texts of this session, cut down to what one claim needs and joined: FfValG. -/
import Derived.Test.YtjleceekccehoaaGreatDoorQGJ16
import Derived.Test.YtjleceekccehoaaGreatDoorQGJ13
import Derived.Test.YtjleceekccehoaaGreatDoorQGJ4
set_option linter.unusedVariables false
set_option linter.unusedSimpArgs false
namespace Go.Proofs.YtjleceekccehoaaGreatDoor.Pr
open Go.RowKit Go.Proofs.YtjleceekccehoaaGreatDoorW.PrintWords Go.Proofs.YtjleceekccehoaaGreatDoorW.PrintLast Go.Proofs.YtjleceekccehoaaGreatDoorW.PrintMore

def BegN (l : List UInt8) : Prop := l ≠ [] ∧ ∀ c, l[0]? = some c → (48 ≤ c.toNat ∧ c.toNat ≤ 57) ∨ c.toNat = 46
def VpE (l : List UInt8) (e : Ending) : Prop := if l.length ≤ 200 ∧ plainV l = true then ∃ b : Int, e = .returned (.tuple #[.int .u64 b, .nilIface]) else e = .returned (.tuple #[.int .u64 0, .iface 55 (.int .i64 13)])
theorem beg_ne {l : List UInt8} (hb : BegN l) (c : UInt8) (r : List UInt8) (hc : ¬ ((48 ≤ c.toNat ∧ c.toNat ≤ 57) ∨ c.toNat = 46)) : ((bs l).toList == c :: r) = false := by
  rw [Lib.toList_data, show (bs l).data.toList = l from by simp [bs], beq_eq_false_iff_ne]
  intro he
  exact hc (hb.2 c (by rw [he]; rfl))
set_option maxHeartbeats 1000000 in
set_option maxRecDepth 100000 in
theorem valParse_any (l : List UInt8) (hb : BegN l) (hl : l.length ≤ 1000000) (w : World) (hN : LaidN w) (hS : LaidS w) : Calls Tryz.prog 23 #[.string (bs l)] w fun e w' => VpE l e ∧ Below w.heap.size w w' := by
  have hsz := bs_size l
  have e1 := beg_ne hb 78 [97, 78] (by decide)
  have e2 := beg_ne hb 73 [110, 102] (by decide)
  have e3 := beg_ne hb 43 [73, 110, 102] (by decide)
  have e4 := beg_ne hb 45 [73, 110, 102] (by decide)
  have k1 := fbits_run
  have HN := Aside0.mk hN
  have HS := Aside0.mk hS
  have HB := Aside0.mk hb
  have HL := Aside0.mk hl
  clear hN hS hb hl
  by_cases h2 : l.length ≤ 200
  · have t1 : ((l.length : Int) > 200) = False := eq_false (by omega)
    obtain ⟨b, hp⟩ : ∃ b, plainV l = b := ⟨_, rfl⟩
    have HP := Aside0.mk hp
    clear hp
    cases b
    · have HV : Aside0 (VpE l (.returned (.tuple #[.int .u64 0, .iface 55 (.int .i64 13)]))) := ⟨by unfold VpE; rw [if_neg (by rw [HP.out]; simp)]⟩
      go_enter Tryz.func23, Tryz.ntmps23
      go_wp2_with fail
      refine (plain_any l HL.out _).mono ?_
      rw [HP.out]
      rintro e_ w1 ⟨rfl, hb1⟩
      have HB1 := Aside0.mk hb1
      clear hb1
      go_wp2_with fail
      go_ret2
      exact ⟨by first | exact HV.out | (simp; exact HV.out), HB1.out⟩
    · have HV : Aside0 (∀ b : Int, VpE l (.returned (.tuple #[.int .u64 b, .nilIface]))) := ⟨fun b => by unfold VpE; rw [if_pos ⟨h2, HP.out⟩]; exact ⟨b, rfl⟩⟩
      have HT := Aside0.mk (plain_numT HP.out h2 HB.out.2)
      go_enter Tryz.func23, Tryz.ntmps23
      go_wp2_with fail
      refine (plain_any l HL.out _).mono ?_
      rw [HP.out]
      rintro e_ w1 ⟨rfl, hb1⟩
      have HB1 := Aside0.mk hb1
      clear hb1
      go_wp2_with fail
      refine (parseFloat_any l HT.out HB.out.1 _ (HN.out.below HB1.out) (HS.out.below HB1.out)).mono ?_
      rintro e_ w2 ⟨⟨x, v, rfl⟩, hb2⟩
      have HB2 := Aside0.mk (below_step HB1.out hb2)
      clear hb2
      go_wp2_with fail
      go_ret2
      exact ⟨by first | exact HV.out _ | (simp; exact HV.out _), HB2.out⟩
  · have t1 : ((l.length : Int) > 200) := by omega
    have HV : Aside0 (VpE l (.returned (.tuple #[.int .u64 0, .iface 55 (.int .i64 13)]))) := ⟨by unfold VpE; rw [if_neg (fun h => h2 h.1)]⟩
    go_enter Tryz.func23, Tryz.ntmps23
    go_wp2_with fail
    go_ret2
    exact ⟨by first | exact HV.out | (simp; exact HV.out), by repeat (first | (with_reducible exact Below.refl _ _) | apply pw_below_drewN | apply below_drew1 | exact Below.refl _ _)⟩
end Go.Proofs.YtjleceekccehoaaGreatDoor.Pr
