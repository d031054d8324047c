/- Texts of this session, cut down to what one claim needs and joined: FfPfl, SpanN. -/
import Derived.Test.YtjleceekccehoaaGreatDoorQFfAtof
import Derived.Test.YtjleceekccehoaaGreatDoorQShelf2
import Derived.Shelf.RegionOpenPlain
import Derived.Lib.AtoiErrMem
import Derived.RegionTactic
import Derived.Deep.RegionWith
import Derived.BigCall
import Derived.Test.YtjleceekccehoaaGreatDoorQGJ3
import Derived.Test.YtjleceekccehoaaGreatDoorQGOrd
section
set_option linter.unusedVariables false
set_option linter.unusedSimpArgs false
namespace Go.Proofs.YtjleceekccehoaaGreatDoor.Pr
open Go.RowKit Go.Proofs.Fl Go.Proofs.YtjleceekccehoaaGreatDoorW.PrintWords Go.Proofs.YtjleceekccehoaaGreatDoorW.PrintLast Go.Proofs.YtjleceekccehoaaGreatDoorW.PrintMore

/-- strconv's two errors: variables that hold an error (or none). -/
structure LaidS (w : World) : Prop where
  range : ∃ v, w.cell? ⟨8, 0, none⟩ = some v ∧ (v = .nilIface ∨ ∃ te pe, v = .iface te pe)
  syn : ∃ v, w.cell? ⟨7, 0, none⟩ = some v ∧ (v = .nilIface ∨ ∃ te pe, v = .iface te pe)
theorem LaidS.below {w w' : World} (h : LaidS w) (hb : Below w.heap.size w w') : LaidS w' := by
  obtain ⟨v, h1, h2⟩ := h.range
  obtain ⟨u, h3, h4⟩ := h.syn
  exact ⟨⟨v, pw_cell_below hb h1, h2⟩, ⟨u, pw_cell_below hb h3, h4⟩⟩
theorem clone_any (s : ByteArray) (w : World) (hl : s.size ≤ 281474976710656) : Calls Tryz.prog 124 #[.string s] w fun e w' => e = .returned (.string s) ∧ Below w.heap.size w w' := Any.stringslite_Clone Tryz.laysM316 s w hl
def IsP (e : Ending) : Prop := ∃ N : Nat, e = .returned (.pointer (some ⟨N, 0, none⟩))
set_option maxHeartbeats 6400000 in
set_option maxRecDepth 100000 in
theorem rangeError_any (fn s : ByteArray) (w : World) (hl : s.size ≤ 281474976710656) (hS : LaidS w) :
    Calls Tryz.prog 91 #[.string fn, .string s] w fun e w' => IsP e ∧ Below w.heap.size w w' := by
  obtain ⟨ev, hv, hev⟩ := hS.range
  have hlt := World.block_lt_of_cell? w _ hv
  have mixed : Tryz.prog.follows Departure.mixedOrders = true := by kernel_rfl
  have e25 : ∀ args w, (callFunc 124 args).run Tryz.prog w = .ok (.enter 124 args) w := fun _ _ => rfl
  rcases hev with rfl | ⟨te, pe, rfl⟩
  all_goals
    have hvd : w.drew.cell? ⟨8, 0, none⟩ = some _ := hv
    clear hS
    go_enter Tryz.func91, Tryz.ntmps91
    go_wp2
    go_region_with_o (
        go_at_fn 124
        refine (clone_any s _ hl).mono ?_
        rintro e w2 ⟨rfl, hbel⟩
        have hv2 : w2.cell? ⟨8, 0, none⟩ = some _ := (hbel.cell (show (⟨8, 0, none⟩ : Addr).block < w.drew.heap.size from hlt)).trans hvd)
    all_goals (
      go_wp2
      go_ret
      have hs2 : w.heap.size ≤ w2.heap.size := hbel.size
      exact ⟨⟨_, rfl⟩, ((Below.drew (Below.refl _ w)).trans hbel).alloc hs2 _⟩)
set_option maxHeartbeats 6400000 in
set_option maxRecDepth 100000 in
theorem syntaxError_any (fn s : ByteArray) (w : World) (hl : s.size ≤ 281474976710656) (hS : LaidS w) :
    Calls Tryz.prog 90 #[.string fn, .string s] w fun e w' => IsP e ∧ Below w.heap.size w w' := by
  obtain ⟨ev, hv, hev⟩ := hS.syn
  have hlt := World.block_lt_of_cell? w _ hv
  have mixed : Tryz.prog.follows Departure.mixedOrders = true := by kernel_rfl
  have e25 : ∀ args w, (callFunc 124 args).run Tryz.prog w = .ok (.enter 124 args) w := fun _ _ => rfl
  rcases hev with rfl | ⟨te, pe, rfl⟩
  all_goals
    have hvd : w.drew.cell? ⟨7, 0, none⟩ = some _ := hv
    clear hS
    go_enter Tryz.func90, Tryz.ntmps90
    go_wp2
    go_region_with_o (
        go_at_fn 124
        refine (clone_any s _ hl).mono ?_
        rintro e w2 ⟨rfl, hbel⟩
        have hv2 : w2.cell? ⟨7, 0, none⟩ = some _ := (hbel.cell (show (⟨7, 0, none⟩ : Addr).block < w.drew.heap.size from hlt)).trans hvd)
    all_goals (
      go_wp2
      go_ret
      have hs2 : w.heap.size ≤ w2.heap.size := hbel.size
      exact ⟨⟨_, rfl⟩, ((Below.drew (Below.refl _ w)).trans hbel).alloc hs2 _⟩)
set_option maxHeartbeats 4000000 in
set_option maxRecDepth 100000 in
theorem toError_any (fn s : ByteArray) (a b : Int) (v : Value) (hv : v = .iface 132 (.int .i64 1) ∨ v = .iface 132 (.int .i64 2)) (w : World) (hl : s.size ≤ 281474976710656) (hS : LaidS w) :
    Calls Tryz.prog 65 #[.string fn, .string s, .int .i64 a, .int .i64 b, v] w fun e w' => (∃ N : Nat, e = .returned (.iface 133 (.pointer (some ⟨N, 0, none⟩)))) ∧ Below w.heap.size w w' := by
  have HS := Aside0.mk hS
  have HL := Aside0.mk hl
  clear hS hl
  have q12 : ∀ W, (binOp .eql 31 (.iface 132 (.int .i64 1)) (.iface 132 (.int .i64 2))).run Tryz.prog W = .ok (.bool false) W := fun W => by kernel_rfl
  have q11 : ∀ W, (binOp .eql 31 (.iface 132 (.int .i64 1)) (.iface 132 (.int .i64 1))).run Tryz.prog W = .ok (.bool true) W := fun W => by kernel_rfl
  have q22 : ∀ W, (binOp .eql 31 (.iface 132 (.int .i64 2)) (.iface 132 (.int .i64 2))).run Tryz.prog W = .ok (.bool true) W := fun W => by kernel_rfl
  rcases hv with rfl | rfl
  all_goals
    go_enter Tryz.func65, Tryz.ntmps65
    go_wp2_with (first | (go_at_call 91; refine (rangeError_any _ _ _ HL.out HS.out).mono ?_; rintro e_ w2 ⟨⟨N, rfl⟩, hb⟩) | (go_at_call 90; refine (syntaxError_any _ _ _ HL.out HS.out).mono ?_; rintro e_ w2 ⟨⟨N, rfl⟩, hb⟩))
    go_ret
    exact ⟨⟨N, rfl⟩, hb⟩
def FlE (e : Ending) : Prop := ∃ (x : Nat) (v : Value), e = .returned (.tuple #[.float .f64 x, v])
set_option maxHeartbeats 4000000 in
set_option maxRecDepth 100000 in
theorem parsePrefix_any (l : List UInt8) (hT : NumT l) (hn : l ≠ []) (w : World) (hN : LaidN w) : Calls Tryz.prog 89 #[.string (bs l), .int .i64 64] w fun e w' => AtE e ∧ Below w.heap.size w w' := by
  have HN := Aside0.mk hN
  have HT := Aside0.mk hT
  have HNE := Aside0.mk hn
  clear hN hT hn
  go_enter Tryz.func89, Tryz.ntmps89
  go_wp2_with (go_at_call 123; refine (atof64_any l HT.out HNE.out _ HN.out).mono ?_; rintro e_ w1 ⟨⟨x, n, v, rfl, hv⟩, hb⟩; have HV := Aside0.mk hv; have HB := Aside0.mk hb; clear hv hb)
  refine bodyPost_ret (results_list (rs := [.tmp 4, .tmp 5, .tmp 6]) rfl (by simp) (.tmp (.tmp (.tmp .nil)))) rfl ?_
  exact ⟨⟨_, _, _, rfl, HV.out⟩, HB.out⟩
set_option maxHeartbeats 4000000 in
set_option maxRecDepth 100000 in
theorem parseI_any (l : List UInt8) (hT : NumT l) (hn : l ≠ []) (w : World) (hN : LaidN w) : Calls Tryz.prog 64 #[.string (bs l), .int .i64 64] w fun e w' => PfE e ∧ Below w.heap.size w w' := by
  have HN := Aside0.mk hN
  have HT := Aside0.mk hT
  have HNE := Aside0.mk hn
  clear hN hT hn
  go_enter Tryz.func64, Tryz.ntmps64
  go_wp2_with (go_at_call 89; refine (parsePrefix_any l HT.out HNE.out _ HN.out).mono ?_; rintro e_ w1 ⟨⟨x, n, v, rfl, hv⟩, hb⟩; have HV := Aside0.mk hv; have HB := Aside0.mk hb; clear hv hb)
  all_goals
    refine bodyPost_ret (results_list (rs := [.tmp 4, .tmp 5]) rfl (by simp) (.tmp (.tmp .nil))) rfl ?_
    first
      | exact ⟨⟨_, _, rfl, HV.out⟩, HB.out⟩
      | exact ⟨⟨_, _, rfl, Or.inr (Or.inr rfl)⟩, HB.out⟩
set_option maxHeartbeats 4000000 in
set_option maxRecDepth 100000 in
/-- strconv.ParseFloat returns at every number's text. -/
theorem parseFloat_any (l : List UInt8) (hT : NumT l) (hn : l ≠ []) (w : World) (hN : LaidN w) (hS : LaidS w) : Calls Tryz.prog 40 #[.string (bs l), .int .i64 64] w fun e w' => FlE e ∧ Below w.heap.size w w' := by
  have HN := Aside0.mk hN
  have HS := Aside0.mk hS
  have HT := Aside0.mk hT
  have HNE := Aside0.mk hn
  have hsz := bs_size l
  have hz : (bs l).size ≤ 281474976710656 := by have := hT.len; omega
  have HZ := Aside0.mk hz
  clear hN hT hn hS hsz hz
  go_enter Tryz.func40, Tryz.ntmps40
  go_wp2_with fail
  refine (parseI_any l HT.out HNE.out _ HN.out).mono ?_
  rintro e_ w1 ⟨⟨x, v, rfl, hv⟩, hb⟩
  have HB := Aside0.mk hb
  clear hb
  rcases hv with rfl | hv
  · go_wp2_with fail
    refine bodyPost_ret (results_list (rs := [.tmp 4, .tmp 5]) rfl (by simp) (.tmp (.tmp .nil))) rfl ?_
    exact ⟨⟨_, _, rfl⟩, HB.out⟩
  · rcases hv with rfl | rfl
    all_goals
      go_wp2_with (go_at_call 65; refine (toError_any _ _ _ _ _ (by first | exact Or.inl rfl | exact Or.inr rfl) _ HZ.out (HS.out.below HB.out)).mono ?_; rintro e_ w2 ⟨⟨N, rfl⟩, hb2⟩; have HB2 := Aside0.mk (below_step HB.out hb2); clear hb2)
      refine bodyPost_ret (results_list (rs := [.tmp 4, .tmp 5]) rfl (by simp) (.tmp (.tmp .nil))) rfl ?_
      exact ⟨⟨_, _, rfl⟩, HB2.out⟩
end Go.Proofs.YtjleceekccehoaaGreatDoor.Pr
end

section
set_option linter.unusedVariables false
set_option linter.unusedSimpArgs false
namespace Go.Proofs.YtjleceekccehoaaGreatDoor.Pr
open Go.RowKit Go.Proofs.YtjleceekccehoaaGreatDoorW.PrintWords Go.Proofs.YtjleceekccehoaaGreatDoorW.PrintLast Go.Proofs.YtjleceekccehoaaGreatDoorW.PrintMore

def uset : List UInt8 := [121, 119, 100, 104, 109, 115]
theorem trimLeft_any (l : List UInt8) (w : World) : Calls Tryz.prog 62 #[.string (bs l), .string (bs uset)] w fun e w' => e = .returned (.string (bs (l.dropWhile (uset.contains ·)))) ∧ Below w.heap.size w w' :=
  Any.strings_TrimLeft_laid Tryz.lays161 (by kernel_rfl) (bs l) (bs uset) w (by decide) (ascii_of_all (by decide))

theorem ix0 (w : World) : (Instr.index 162 (.agg #[.string ⟨#[121]⟩, .int .i64 31536000000, .string ⟨#[119]⟩, .int .i64 604800000, .string ⟨#[100]⟩, .int .i64 86400000, .string ⟨#[104]⟩, .int .i64 3600000, .string ⟨#[109]⟩, .int .i64 60000, .string ⟨#[115]⟩, .int .i64 1000, .string ⟨#[109, 115]⟩, .int .i64 1]) (.int .i64 0)).run Tryz.prog w = .ok (.agg #[.string ⟨#[121]⟩, .int .i64 31536000000]) w := by kernel_rfl
theorem ix1 (w : World) : (Instr.index 162 (.agg #[.string ⟨#[121]⟩, .int .i64 31536000000, .string ⟨#[119]⟩, .int .i64 604800000, .string ⟨#[100]⟩, .int .i64 86400000, .string ⟨#[104]⟩, .int .i64 3600000, .string ⟨#[109]⟩, .int .i64 60000, .string ⟨#[115]⟩, .int .i64 1000, .string ⟨#[109, 115]⟩, .int .i64 1]) (.int .i64 1)).run Tryz.prog w = .ok (.agg #[.string ⟨#[119]⟩, .int .i64 604800000]) w := by kernel_rfl
theorem ix2 (w : World) : (Instr.index 162 (.agg #[.string ⟨#[121]⟩, .int .i64 31536000000, .string ⟨#[119]⟩, .int .i64 604800000, .string ⟨#[100]⟩, .int .i64 86400000, .string ⟨#[104]⟩, .int .i64 3600000, .string ⟨#[109]⟩, .int .i64 60000, .string ⟨#[115]⟩, .int .i64 1000, .string ⟨#[109, 115]⟩, .int .i64 1]) (.int .i64 2)).run Tryz.prog w = .ok (.agg #[.string ⟨#[100]⟩, .int .i64 86400000]) w := by kernel_rfl
theorem ix3 (w : World) : (Instr.index 162 (.agg #[.string ⟨#[121]⟩, .int .i64 31536000000, .string ⟨#[119]⟩, .int .i64 604800000, .string ⟨#[100]⟩, .int .i64 86400000, .string ⟨#[104]⟩, .int .i64 3600000, .string ⟨#[109]⟩, .int .i64 60000, .string ⟨#[115]⟩, .int .i64 1000, .string ⟨#[109, 115]⟩, .int .i64 1]) (.int .i64 3)).run Tryz.prog w = .ok (.agg #[.string ⟨#[104]⟩, .int .i64 3600000]) w := by kernel_rfl
theorem ix4 (w : World) : (Instr.index 162 (.agg #[.string ⟨#[121]⟩, .int .i64 31536000000, .string ⟨#[119]⟩, .int .i64 604800000, .string ⟨#[100]⟩, .int .i64 86400000, .string ⟨#[104]⟩, .int .i64 3600000, .string ⟨#[109]⟩, .int .i64 60000, .string ⟨#[115]⟩, .int .i64 1000, .string ⟨#[109, 115]⟩, .int .i64 1]) (.int .i64 4)).run Tryz.prog w = .ok (.agg #[.string ⟨#[109]⟩, .int .i64 60000]) w := by kernel_rfl
theorem ix5 (w : World) : (Instr.index 162 (.agg #[.string ⟨#[121]⟩, .int .i64 31536000000, .string ⟨#[119]⟩, .int .i64 604800000, .string ⟨#[100]⟩, .int .i64 86400000, .string ⟨#[104]⟩, .int .i64 3600000, .string ⟨#[109]⟩, .int .i64 60000, .string ⟨#[115]⟩, .int .i64 1000, .string ⟨#[109, 115]⟩, .int .i64 1]) (.int .i64 5)).run Tryz.prog w = .ok (.agg #[.string ⟨#[115]⟩, .int .i64 1000]) w := by kernel_rfl
theorem ix6 (w : World) : (Instr.index 162 (.agg #[.string ⟨#[121]⟩, .int .i64 31536000000, .string ⟨#[119]⟩, .int .i64 604800000, .string ⟨#[100]⟩, .int .i64 86400000, .string ⟨#[104]⟩, .int .i64 3600000, .string ⟨#[109]⟩, .int .i64 60000, .string ⟨#[115]⟩, .int .i64 1000, .string ⟨#[109, 115]⟩, .int .i64 1]) (.int .i64 6)).run Tryz.prog w = .ok (.agg #[.string ⟨#[109, 115]⟩, .int .i64 1]) w := by kernel_rfl
theorem eqL {x run : List UInt8} (h : (x == (bs run).toList) = true) : run = x := by
  rw [Lib.toList_data] at h
  exact (beq_iff_eq.1 h).symm
theorem neL {x run : List UInt8} (h : (x == (bs run).toList) = false) : run ≠ x := by
  rw [Lib.toList_data] at h
  exact fun e => (beq_eq_false_iff_ne.1 h) e.symm
/-- The table of units. -/
def LaidU (w : World) : Prop :=
  (w.cell? ⟨3, 0, none⟩ = some (.string ⟨#[121]⟩) ∧ w.cell? ⟨3, 1, none⟩ = some (.int .i64 31536000000)) ∧
  (w.cell? ⟨3, 2, none⟩ = some (.string ⟨#[119]⟩) ∧ w.cell? ⟨3, 3, none⟩ = some (.int .i64 604800000)) ∧
  (w.cell? ⟨3, 4, none⟩ = some (.string ⟨#[100]⟩) ∧ w.cell? ⟨3, 5, none⟩ = some (.int .i64 86400000)) ∧
  (w.cell? ⟨3, 6, none⟩ = some (.string ⟨#[104]⟩) ∧ w.cell? ⟨3, 7, none⟩ = some (.int .i64 3600000)) ∧
  (w.cell? ⟨3, 8, none⟩ = some (.string ⟨#[109]⟩) ∧ w.cell? ⟨3, 9, none⟩ = some (.int .i64 60000)) ∧
  (w.cell? ⟨3, 10, none⟩ = some (.string ⟨#[115]⟩) ∧ w.cell? ⟨3, 11, none⟩ = some (.int .i64 1000)) ∧
  (w.cell? ⟨3, 12, none⟩ = some (.string ⟨#[109, 115]⟩) ∧ w.cell? ⟨3, 13, none⟩ = some (.int .i64 1))
theorem LaidU.below {w w' : World} (h : LaidU w) (hb : Below w.heap.size w w') : LaidU w' := by
  obtain ⟨⟨a0, a1⟩, ⟨a2, a3⟩, ⟨a4, a5⟩, ⟨a6, a7⟩, ⟨a8, a9⟩, ⟨b0, b1⟩, b2, b3⟩ := h
  exact ⟨⟨pw_cell_below hb a0, pw_cell_below hb a1⟩, ⟨pw_cell_below hb a2, pw_cell_below hb a3⟩, ⟨pw_cell_below hb a4, pw_cell_below hb a5⟩, ⟨pw_cell_below hb a6, pw_cell_below hb a7⟩, ⟨pw_cell_below hb a8, pw_cell_below hb a9⟩, ⟨pw_cell_below hb b0, pw_cell_below hb b1⟩, pw_cell_below hb b2, pw_cell_below hb b3⟩
def unitOf (run : List UInt8) : Int :=
  if run = [121] then 0 else if run = [119] then 1 else if run = [100] then 2 else if run = [104] then 3 else if run = [109] then 4 else if run = [115] then 5 else if run = [109, 115] then 6 else -1
def namedS (l : List UInt8) : Int × List UInt8 := (unitOf (l.takeWhile (uset.contains ·)), if unitOf (l.takeWhile (uset.contains ·)) = -1 then [] else l.dropWhile (uset.contains ·))

set_option maxHeartbeats 4000000 in
set_option maxRecDepth 100000 in
theorem named_any (l : List UInt8) (hl : l.length ≤ 9223372036854775806) (w : World) (hU : LaidU w) :
    Calls Tryz.prog 112 #[.string (bs l)] w fun e w' => e = .returned (.tuple #[.int .i64 (namedS l).1, .string (bs (namedS l).2)]) ∧ Below w.heap.size w w' := by
  obtain ⟨rest, hrest⟩ : ∃ r, r = l.dropWhile (uset.contains ·) := ⟨_, rfl⟩
  obtain ⟨run, hrun⟩ : ∃ r, r = l.takeWhile (uset.contains ·) := ⟨_, rfl⟩
  have happ : l = run ++ rest := by rw [hrest, hrun, List.takeWhile_append_dropWhile]
  have HT : Aside0 (∀ w, Calls Tryz.prog 62 #[.string (bs l), .string (bs uset)] w fun e w' => e = .returned (.string (bs rest)) ∧ Below w.heap.size w w') := ⟨fun w => by rw [hrest]; exact trimLeft_any l w⟩
  have HN : Aside0 (namedS l = (unitOf run, if unitOf run = -1 then [] else rest)) := ⟨by unfold namedS; rw [← hrun, ← hrest]⟩
  have hlen : l.length = run.length + rest.length := by rw [happ, List.length_append]
  have t2 : (bs l).extract 0 run.length = bs run := by rw [Go.Lib.Pa.extract_upto]; unfold bs; simp [happ]
  have t3 : (bs l).extract run.length l.length = bs rest := by rw [bs_drop', happ, List.drop_left]
  have t1 : wrap64 ((l.length : Int) - (rest.length : Int)) = (run.length : Int) := by unfold wrap64; omega
  have hsz := bs_size l
  have hsz2 := bs_size rest
  have hsz3 := bs_size run
  have t4 : (0 : Int) ≤ (run.length : Int) := by omega
  have t5 : (run.length : Int) ≤ (l.length : Int) := by omega
  have hlt : 3 < w.heap.size := World.block_lt_of_cell? w _ hU.1.1
  have HU := Aside0.mk hU
  clear hrest hrun happ hU hlen
  go_enter Tryz.func112, Tryz.ntmps112
  go_wp2_with (go_at_call 62; refine (HT.out _).mono ?_; rintro e w1 ⟨rfl, hb1⟩; obtain ⟨⟨a0, a1⟩, ⟨a2, a3⟩, ⟨a4, a5⟩, ⟨a6, a7⟩, ⟨a8, a9⟩, ⟨b0, b1⟩, b2, b3⟩ := HU.out.below hb1)
  have x0 := ix0
  have x1 := ix1
  have x2 := ix2
  have x3 := ix3
  have x4 := ix4
  have x5 := ix5
  have x6 := ix6
  clear HU HT hsz2
  have HB := Aside0.mk hb1
  clear hb1
  refine wp_loop_rounds 8 ?_
  rw [rounds_succ]
  go_wp2
  · have HE := Aside0.mk (eqL ‹([121] == (bs run).toList) = true›)
    go_quiet (fail)
    go_wp2
    go_ret2
    exact ⟨by rw [HN.out, HE.out]; rfl, by repeat (first | (with_reducible first | exact HB.out | apply below_alloc | apply pw_below_drewN | apply below_drew1) | exact HB.out)⟩
  have n0 := neL ‹([121] == (bs run).toList) = false›
  rw [rounds_succ]
  go_wp2
  · have HE := Aside0.mk (eqL ‹([119] == (bs run).toList) = true›)
    go_quiet (fail)
    go_wp2
    go_ret2
    exact ⟨by rw [HN.out, HE.out]; rfl, by repeat (first | (with_reducible first | exact HB.out | apply below_alloc | apply pw_below_drewN | apply below_drew1) | exact HB.out)⟩
  have n1 := neL ‹([119] == (bs run).toList) = false›
  rw [rounds_succ]
  go_wp2
  · have HE := Aside0.mk (eqL ‹([100] == (bs run).toList) = true›)
    go_quiet (fail)
    go_wp2
    go_ret2
    exact ⟨by rw [HN.out, HE.out]; rfl, by repeat (first | (with_reducible first | exact HB.out | apply below_alloc | apply pw_below_drewN | apply below_drew1) | exact HB.out)⟩
  have n2 := neL ‹([100] == (bs run).toList) = false›
  rw [rounds_succ]
  go_wp2
  · have HE := Aside0.mk (eqL ‹([104] == (bs run).toList) = true›)
    go_quiet (fail)
    go_wp2
    go_ret2
    exact ⟨by rw [HN.out, HE.out]; rfl, by repeat (first | (with_reducible first | exact HB.out | apply below_alloc | apply pw_below_drewN | apply below_drew1) | exact HB.out)⟩
  have n3 := neL ‹([104] == (bs run).toList) = false›
  rw [rounds_succ]
  go_wp2
  · have HE := Aside0.mk (eqL ‹([109] == (bs run).toList) = true›)
    go_quiet (fail)
    go_wp2
    go_ret2
    exact ⟨by rw [HN.out, HE.out]; rfl, by repeat (first | (with_reducible first | exact HB.out | apply below_alloc | apply pw_below_drewN | apply below_drew1) | exact HB.out)⟩
  have n4 := neL ‹([109] == (bs run).toList) = false›
  rw [rounds_succ]
  go_wp2
  · have HE := Aside0.mk (eqL ‹([115] == (bs run).toList) = true›)
    go_quiet (fail)
    go_wp2
    go_ret2
    exact ⟨by rw [HN.out, HE.out]; rfl, by repeat (first | (with_reducible first | exact HB.out | apply below_alloc | apply pw_below_drewN | apply below_drew1) | exact HB.out)⟩
  have n5 := neL ‹([115] == (bs run).toList) = false›
  rw [rounds_succ]
  go_wp2
  · have HE := Aside0.mk (eqL ‹([109, 115] == (bs run).toList) = true›)
    go_quiet (fail)
    go_wp2
    go_ret2
    exact ⟨by rw [HN.out, HE.out]; rfl, by repeat (first | (with_reducible first | exact HB.out | apply below_alloc | apply pw_below_drewN | apply below_drew1) | exact HB.out)⟩
  have n6 := neL ‹([109, 115] == (bs run).toList) = false›
  rw [rounds_succ]
  go_wp2
  go_ret2
  refine ⟨?_, by repeat (first | (with_reducible first | exact HB.out | apply below_alloc | apply pw_below_drewN | apply below_drew1) | exact HB.out)⟩
  have hu : unitOf run = -1 := by unfold unitOf; rw [if_neg n0, if_neg n1, if_neg n2, if_neg n3, if_neg n4, if_neg n5, if_neg n6]
  rw [HN.out, hu]
  rfl
end Go.Proofs.YtjleceekccehoaaGreatDoor.Pr
end
