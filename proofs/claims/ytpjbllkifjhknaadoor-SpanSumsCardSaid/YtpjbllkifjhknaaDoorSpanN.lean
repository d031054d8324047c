/- span's named: the walk. -/
import Derived.Test.YtpjbllkifjhknaaDoorSpan
import Derived.Test.YtpjbllkifjhknaaDoorShelf
set_option linter.unusedVariables false
set_option linter.unusedSimpArgs false
namespace Go.Proofs.YtpjbllkifjhknaaDoor.Pr
open Go.RowKit Go.Proofs.YtpjbllkifjhknaaDoorW.PrintWords Go.Proofs.YtpjbllkifjhknaaDoorW.PrintLast Go.Proofs.YtpjbllkifjhknaaDoorW.PrintMore

def uset : List UInt8 := [121, 119, 100, 104, 109, 115]
theorem trimLeft_any (l : List UInt8) (w : World) : Calls Tryd.prog 20 #[.string (bs l), .string (bs uset)] w fun e w' => e = .returned (.string (bs (l.dropWhile (uset.contains ·)))) ∧ Below w.heap.size w w' :=
  Any.strings_TrimLeft_laid Tryd.lays161 (by kernel_rfl) (bs l) (bs uset) w (by decide) (ascii_of_all (by decide))

theorem ix0 (w : World) : (Instr.index 45 (.agg #[.string ⟨#[121]⟩, .int .i64 31536000000, .string ⟨#[119]⟩, .int .i64 604800000, .string ⟨#[100]⟩, .int .i64 86400000, .string ⟨#[104]⟩, .int .i64 3600000, .string ⟨#[109]⟩, .int .i64 60000, .string ⟨#[115]⟩, .int .i64 1000, .string ⟨#[109, 115]⟩, .int .i64 1]) (.int .i64 0)).run Tryd.prog w = .ok (.agg #[.string ⟨#[121]⟩, .int .i64 31536000000]) w := by kernel_rfl
theorem ix1 (w : World) : (Instr.index 45 (.agg #[.string ⟨#[121]⟩, .int .i64 31536000000, .string ⟨#[119]⟩, .int .i64 604800000, .string ⟨#[100]⟩, .int .i64 86400000, .string ⟨#[104]⟩, .int .i64 3600000, .string ⟨#[109]⟩, .int .i64 60000, .string ⟨#[115]⟩, .int .i64 1000, .string ⟨#[109, 115]⟩, .int .i64 1]) (.int .i64 1)).run Tryd.prog w = .ok (.agg #[.string ⟨#[119]⟩, .int .i64 604800000]) w := by kernel_rfl
theorem ix2 (w : World) : (Instr.index 45 (.agg #[.string ⟨#[121]⟩, .int .i64 31536000000, .string ⟨#[119]⟩, .int .i64 604800000, .string ⟨#[100]⟩, .int .i64 86400000, .string ⟨#[104]⟩, .int .i64 3600000, .string ⟨#[109]⟩, .int .i64 60000, .string ⟨#[115]⟩, .int .i64 1000, .string ⟨#[109, 115]⟩, .int .i64 1]) (.int .i64 2)).run Tryd.prog w = .ok (.agg #[.string ⟨#[100]⟩, .int .i64 86400000]) w := by kernel_rfl
theorem ix3 (w : World) : (Instr.index 45 (.agg #[.string ⟨#[121]⟩, .int .i64 31536000000, .string ⟨#[119]⟩, .int .i64 604800000, .string ⟨#[100]⟩, .int .i64 86400000, .string ⟨#[104]⟩, .int .i64 3600000, .string ⟨#[109]⟩, .int .i64 60000, .string ⟨#[115]⟩, .int .i64 1000, .string ⟨#[109, 115]⟩, .int .i64 1]) (.int .i64 3)).run Tryd.prog w = .ok (.agg #[.string ⟨#[104]⟩, .int .i64 3600000]) w := by kernel_rfl
theorem ix4 (w : World) : (Instr.index 45 (.agg #[.string ⟨#[121]⟩, .int .i64 31536000000, .string ⟨#[119]⟩, .int .i64 604800000, .string ⟨#[100]⟩, .int .i64 86400000, .string ⟨#[104]⟩, .int .i64 3600000, .string ⟨#[109]⟩, .int .i64 60000, .string ⟨#[115]⟩, .int .i64 1000, .string ⟨#[109, 115]⟩, .int .i64 1]) (.int .i64 4)).run Tryd.prog w = .ok (.agg #[.string ⟨#[109]⟩, .int .i64 60000]) w := by kernel_rfl
theorem ix5 (w : World) : (Instr.index 45 (.agg #[.string ⟨#[121]⟩, .int .i64 31536000000, .string ⟨#[119]⟩, .int .i64 604800000, .string ⟨#[100]⟩, .int .i64 86400000, .string ⟨#[104]⟩, .int .i64 3600000, .string ⟨#[109]⟩, .int .i64 60000, .string ⟨#[115]⟩, .int .i64 1000, .string ⟨#[109, 115]⟩, .int .i64 1]) (.int .i64 5)).run Tryd.prog w = .ok (.agg #[.string ⟨#[115]⟩, .int .i64 1000]) w := by kernel_rfl
theorem ix6 (w : World) : (Instr.index 45 (.agg #[.string ⟨#[121]⟩, .int .i64 31536000000, .string ⟨#[119]⟩, .int .i64 604800000, .string ⟨#[100]⟩, .int .i64 86400000, .string ⟨#[104]⟩, .int .i64 3600000, .string ⟨#[109]⟩, .int .i64 60000, .string ⟨#[115]⟩, .int .i64 1000, .string ⟨#[109, 115]⟩, .int .i64 1]) (.int .i64 6)).run Tryd.prog w = .ok (.agg #[.string ⟨#[109, 115]⟩, .int .i64 1]) w := by kernel_rfl
theorem eqL {x run : List UInt8} (h : (x == (bs run).toList) = true) : run = x := by
  rw [Lib.toList_data] at h
  exact (beq_iff_eq.1 h).symm
theorem neL {x run : List UInt8} (h : (x == (bs run).toList) = false) : run ≠ x := by
  rw [Lib.toList_data] at h
  exact fun e => (beq_eq_false_iff_ne.1 h) e.symm
/-- The table of units. -/
def LaidU (w : World) : Prop :=
  (w.cell? ⟨0, 0, none⟩ = some (.string ⟨#[121]⟩) ∧ w.cell? ⟨0, 1, none⟩ = some (.int .i64 31536000000)) ∧
  (w.cell? ⟨0, 2, none⟩ = some (.string ⟨#[119]⟩) ∧ w.cell? ⟨0, 3, none⟩ = some (.int .i64 604800000)) ∧
  (w.cell? ⟨0, 4, none⟩ = some (.string ⟨#[100]⟩) ∧ w.cell? ⟨0, 5, none⟩ = some (.int .i64 86400000)) ∧
  (w.cell? ⟨0, 6, none⟩ = some (.string ⟨#[104]⟩) ∧ w.cell? ⟨0, 7, none⟩ = some (.int .i64 3600000)) ∧
  (w.cell? ⟨0, 8, none⟩ = some (.string ⟨#[109]⟩) ∧ w.cell? ⟨0, 9, none⟩ = some (.int .i64 60000)) ∧
  (w.cell? ⟨0, 10, none⟩ = some (.string ⟨#[115]⟩) ∧ w.cell? ⟨0, 11, none⟩ = some (.int .i64 1000)) ∧
  (w.cell? ⟨0, 12, none⟩ = some (.string ⟨#[109, 115]⟩) ∧ w.cell? ⟨0, 13, none⟩ = some (.int .i64 1))
theorem LaidU.below {w w' : World} (h : LaidU w) (hb : Below w.heap.size w w') : LaidU w' := by
  obtain ⟨⟨a0, a1⟩, ⟨a2, a3⟩, ⟨a4, a5⟩, ⟨a6, a7⟩, ⟨a8, a9⟩, ⟨b0, b1⟩, b2, b3⟩ := h
  exact ⟨⟨pw_cell_below hb a0, pw_cell_below hb a1⟩, ⟨pw_cell_below hb a2, pw_cell_below hb a3⟩, ⟨pw_cell_below hb a4, pw_cell_below hb a5⟩, ⟨pw_cell_below hb a6, pw_cell_below hb a7⟩, ⟨pw_cell_below hb a8, pw_cell_below hb a9⟩, ⟨pw_cell_below hb b0, pw_cell_below hb b1⟩, pw_cell_below hb b2, pw_cell_below hb b3⟩
def unitOf (run : List UInt8) : Int :=
  if run = [121] then 0 else if run = [119] then 1 else if run = [100] then 2 else if run = [104] then 3 else if run = [109] then 4 else if run = [115] then 5 else if run = [109, 115] then 6 else -1
def namedS (l : List UInt8) : Int × List UInt8 := (unitOf (l.takeWhile (uset.contains ·)), if unitOf (l.takeWhile (uset.contains ·)) = -1 then [] else l.dropWhile (uset.contains ·))

set_option maxHeartbeats 4000000 in
set_option maxRecDepth 100000 in
theorem named_any (l : List UInt8) (hl : l.length ≤ 9223372036854775806) (w : World) (hU : LaidU w) :
    Calls Tryd.prog 13 #[.string (bs l)] w fun e w' => e = .returned (.tuple #[.int .i64 (namedS l).1, .string (bs (namedS l).2)]) ∧ Below w.heap.size w w' := by
  obtain ⟨rest, hrest⟩ : ∃ r, r = l.dropWhile (uset.contains ·) := ⟨_, rfl⟩
  obtain ⟨run, hrun⟩ : ∃ r, r = l.takeWhile (uset.contains ·) := ⟨_, rfl⟩
  have happ : l = run ++ rest := by rw [hrest, hrun, List.takeWhile_append_dropWhile]
  have HT : Aside0 (∀ w, Calls Tryd.prog 20 #[.string (bs l), .string (bs uset)] w fun e w' => e = .returned (.string (bs rest)) ∧ Below w.heap.size w w') := ⟨fun w => by rw [hrest]; exact trimLeft_any l w⟩
  have HN : Aside0 (namedS l = (unitOf run, if unitOf run = -1 then [] else rest)) := ⟨by unfold namedS; rw [← hrun, ← hrest]⟩
  have hlen : l.length = run.length + rest.length := by rw [happ, List.length_append]
  have t2 : (bs l).extract 0 run.length = bs run := by rw [Go.Lib.Pa.extract_upto]; unfold bs; simp [happ]
  have t3 : (bs l).extract run.length l.length = bs rest := by rw [bs_drop', happ, List.drop_left]
  have t1 : wrap64 ((l.length : Int) - (rest.length : Int)) = (run.length : Int) := by unfold wrap64; omega
  have hsz := bs_size l
  have hsz2 := bs_size rest
  have hsz3 := bs_size run
  have t4 : (0 : Int) ≤ (run.length : Int) := by omega
  have t5 : (run.length : Int) ≤ (l.length : Int) := by omega
  have hlt : 0 < w.heap.size := World.block_lt_of_cell? w _ hU.1.1
  have HU := Aside0.mk hU
  clear hrest hrun happ hU hlen
  go_enter Tryd.func13, Tryd.ntmps13
  go_wp2_with (go_at_call 20; refine (HT.out _).mono ?_; rintro e w1 ⟨rfl, hb1⟩; obtain ⟨⟨a0, a1⟩, ⟨a2, a3⟩, ⟨a4, a5⟩, ⟨a6, a7⟩, ⟨a8, a9⟩, ⟨b0, b1⟩, b2, b3⟩ := HU.out.below hb1)
  have x0 := ix0
  have x1 := ix1
  have x2 := ix2
  have x3 := ix3
  have x4 := ix4
  have x5 := ix5
  have x6 := ix6
  clear HU HT hsz2
  have HB := Aside0.mk hb1
  clear hb1
  refine wp_loop_rounds 8 ?_
  rw [rounds_succ]
  go_wp2
  · have HE := Aside0.mk (eqL ‹([121] == (bs run).toList) = true›)
    go_quiet (fail)
    go_wp2
    go_ret2
    exact ⟨by rw [HN.out, HE.out]; rfl, by repeat (first | (with_reducible first | exact HB.out | apply below_alloc | apply pw_below_drewN | apply below_drew1) | exact HB.out)⟩
  have n0 := neL ‹([121] == (bs run).toList) = false›
  rw [rounds_succ]
  go_wp2
  · have HE := Aside0.mk (eqL ‹([119] == (bs run).toList) = true›)
    go_quiet (fail)
    go_wp2
    go_ret2
    exact ⟨by rw [HN.out, HE.out]; rfl, by repeat (first | (with_reducible first | exact HB.out | apply below_alloc | apply pw_below_drewN | apply below_drew1) | exact HB.out)⟩
  have n1 := neL ‹([119] == (bs run).toList) = false›
  rw [rounds_succ]
  go_wp2
  · have HE := Aside0.mk (eqL ‹([100] == (bs run).toList) = true›)
    go_quiet (fail)
    go_wp2
    go_ret2
    exact ⟨by rw [HN.out, HE.out]; rfl, by repeat (first | (with_reducible first | exact HB.out | apply below_alloc | apply pw_below_drewN | apply below_drew1) | exact HB.out)⟩
  have n2 := neL ‹([100] == (bs run).toList) = false›
  rw [rounds_succ]
  go_wp2
  · have HE := Aside0.mk (eqL ‹([104] == (bs run).toList) = true›)
    go_quiet (fail)
    go_wp2
    go_ret2
    exact ⟨by rw [HN.out, HE.out]; rfl, by repeat (first | (with_reducible first | exact HB.out | apply below_alloc | apply pw_below_drewN | apply below_drew1) | exact HB.out)⟩
  have n3 := neL ‹([104] == (bs run).toList) = false›
  rw [rounds_succ]
  go_wp2
  · have HE := Aside0.mk (eqL ‹([109] == (bs run).toList) = true›)
    go_quiet (fail)
    go_wp2
    go_ret2
    exact ⟨by rw [HN.out, HE.out]; rfl, by repeat (first | (with_reducible first | exact HB.out | apply below_alloc | apply pw_below_drewN | apply below_drew1) | exact HB.out)⟩
  have n4 := neL ‹([109] == (bs run).toList) = false›
  rw [rounds_succ]
  go_wp2
  · have HE := Aside0.mk (eqL ‹([115] == (bs run).toList) = true›)
    go_quiet (fail)
    go_wp2
    go_ret2
    exact ⟨by rw [HN.out, HE.out]; rfl, by repeat (first | (with_reducible first | exact HB.out | apply below_alloc | apply pw_below_drewN | apply below_drew1) | exact HB.out)⟩
  have n5 := neL ‹([115] == (bs run).toList) = false›
  rw [rounds_succ]
  go_wp2
  · have HE := Aside0.mk (eqL ‹([109, 115] == (bs run).toList) = true›)
    go_quiet (fail)
    go_wp2
    go_ret2
    exact ⟨by rw [HN.out, HE.out]; rfl, by repeat (first | (with_reducible first | exact HB.out | apply below_alloc | apply pw_below_drewN | apply below_drew1) | exact HB.out)⟩
  have n6 := neL ‹([109, 115] == (bs run).toList) = false›
  rw [rounds_succ]
  go_wp2
  go_ret2
  refine ⟨?_, by repeat (first | (with_reducible first | exact HB.out | apply below_alloc | apply pw_below_drewN | apply below_drew1) | exact HB.out)⟩
  have hu : unitOf run = -1 := by unfold unitOf; rw [if_neg n0, if_neg n1, if_neg n2, if_neg n3, if_neg n4, if_neg n5, if_neg n6]
  rw [HN.out, hu]
  rfl
end Go.Proofs.YtpjbllkifjhknaaDoor.Pr
