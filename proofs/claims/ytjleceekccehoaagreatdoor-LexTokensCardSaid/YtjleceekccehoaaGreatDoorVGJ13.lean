/- Texts of this session, cut down to what one claim needs and joined: FfPfl, SpanN, LexR0. -/
import Derived.Test.YtjleceekccehoaaGreatDoorVGJ12
import Derived.Test.YtjleceekccehoaaGreatDoorVShelf2
import Derived.Shelf.RegionOpenPlain
import Derived.Lib.AtoiErrMem
import Derived.RegionTactic
import Derived.Deep.RegionWith
import Derived.BigCall
import Derived.Test.YtjleceekccehoaaGreatDoorVGJ2
import Derived.Test.YtjleceekccehoaaGreatDoorVGOrd
import Derived.Test.YtjleceekccehoaaGreatDoorVGJ4
import Derived.Shelf.Unicode.DecodeSlow
import Derived.Lib.FieldsP
section
set_option linter.unusedVariables false
set_option linter.unusedSimpArgs false
namespace Go.Proofs.YtjleceekccehoaaGreatDoor.Pr
open Go.RowKit Go.Proofs.Fl Go.Proofs.YtjleceekccehoaaGreatDoorW.PrintWords Go.Proofs.YtjleceekccehoaaGreatDoorW.PrintLast Go.Proofs.YtjleceekccehoaaGreatDoorW.PrintMore

/-- strconv's two errors: variables that hold an error (or none). -/
structure LaidS (w : World) : Prop where
 range : ∃ v, w.cell? ⟨8, 0, none⟩ = some v ∧ (v = .nilIface ∨ ∃ te pe, v = .iface te pe)
 syn : ∃ v, w.cell? ⟨7, 0, none⟩ = some v ∧ (v = .nilIface ∨ ∃ te pe, v = .iface te pe)
theorem LaidS.below {w w' : World} (h : LaidS w) (hb : Below w.heap.size w w') : LaidS w' := by
 obtain ⟨v, h1, h2⟩ := h.range
 obtain ⟨u, h3, h4⟩ := h.syn
 exact ⟨⟨v, pw_cell_below hb h1, h2⟩, ⟨u, pw_cell_below hb h3, h4⟩⟩
theorem clone_any (s : ByteArray) (w : World) (hl : s.size ≤ 281474976710656) : Calls Tryz.prog 124 #[.string s] w fun e w' => e = .returned (.string s) ∧ Below w.heap.size w w' := Any.stringslite_Clone Tryz.laysM316 s w hl
def IsP (e : Ending) : Prop := ∃ N : Nat, e = .returned (.pointer (some ⟨N, 0, none⟩))
set_option maxHeartbeats 6400000 in
set_option maxRecDepth 100000 in
theorem rangeError_any (fn s : ByteArray) (w : World) (hl : s.size ≤ 281474976710656) (hS : LaidS w) :
  Calls Tryz.prog 91 #[.string fn, .string s] w fun e w' => IsP e ∧ Below w.heap.size w w' := by
 obtain ⟨ev, hv, hev⟩ := hS.range
 have hlt := World.block_lt_of_cell? w _ hv
 have mixed : Tryz.prog.follows Departure.mixedOrders = true := by kernel_rfl
 have e25 : ∀ args w, (callFunc 124 args).run Tryz.prog w = .ok (.enter 124 args) w := fun _ _ => rfl
 rcases hev with rfl | ⟨te, pe, rfl⟩
 all_goals
  have hvd : w.drew.cell? ⟨8, 0, none⟩ = some _ := hv
  clear hS
  go_enter Tryz.func91, Tryz.ntmps91
  go_wp2
  go_region_with_o (
    go_at_fn 124
    refine (clone_any s _ hl).mono ?_
    rintro e w2 ⟨rfl, hbel⟩
    have hv2 : w2.cell? ⟨8, 0, none⟩ = some _ := (hbel.cell (show (⟨8, 0, none⟩ : Addr).block < w.drew.heap.size from hlt)).trans hvd)
  all_goals (
   go_wp2
   go_ret
   have hs2 : w.heap.size ≤ w2.heap.size := hbel.size
   exact ⟨⟨_, rfl⟩, ((Below.drew (Below.refl _ w)).trans hbel).alloc hs2 _⟩)
set_option maxHeartbeats 6400000 in
set_option maxRecDepth 100000 in
theorem syntaxError_any (fn s : ByteArray) (w : World) (hl : s.size ≤ 281474976710656) (hS : LaidS w) :
  Calls Tryz.prog 90 #[.string fn, .string s] w fun e w' => IsP e ∧ Below w.heap.size w w' := by
 obtain ⟨ev, hv, hev⟩ := hS.syn
 have hlt := World.block_lt_of_cell? w _ hv
 have mixed : Tryz.prog.follows Departure.mixedOrders = true := by kernel_rfl
 have e25 : ∀ args w, (callFunc 124 args).run Tryz.prog w = .ok (.enter 124 args) w := fun _ _ => rfl
 rcases hev with rfl | ⟨te, pe, rfl⟩
 all_goals
  have hvd : w.drew.cell? ⟨7, 0, none⟩ = some _ := hv
  clear hS
  go_enter Tryz.func90, Tryz.ntmps90
  go_wp2
  go_region_with_o (
    go_at_fn 124
    refine (clone_any s _ hl).mono ?_
    rintro e w2 ⟨rfl, hbel⟩
    have hv2 : w2.cell? ⟨7, 0, none⟩ = some _ := (hbel.cell (show (⟨7, 0, none⟩ : Addr).block < w.drew.heap.size from hlt)).trans hvd)
  all_goals (
   go_wp2
   go_ret
   have hs2 : w.heap.size ≤ w2.heap.size := hbel.size
   exact ⟨⟨_, rfl⟩, ((Below.drew (Below.refl _ w)).trans hbel).alloc hs2 _⟩)
set_option maxHeartbeats 4000000 in
set_option maxRecDepth 100000 in
theorem toError_any (fn s : ByteArray) (a b : Int) (v : Value) (hv : v = .iface 132 (.int .i64 1) ∨ v = .iface 132 (.int .i64 2)) (w : World) (hl : s.size ≤ 281474976710656) (hS : LaidS w) :
  Calls Tryz.prog 65 #[.string fn, .string s, .int .i64 a, .int .i64 b, v] w fun e w' => (∃ N : Nat, e = .returned (.iface 133 (.pointer (some ⟨N, 0, none⟩)))) ∧ Below w.heap.size w w' := by
 have HS := Aside0.mk hS
 have HL := Aside0.mk hl
 clear hS hl
 have q12 : ∀ W, (binOp .eql 31 (.iface 132 (.int .i64 1)) (.iface 132 (.int .i64 2))).run Tryz.prog W = .ok (.bool false) W := fun W => by kernel_rfl
 have q11 : ∀ W, (binOp .eql 31 (.iface 132 (.int .i64 1)) (.iface 132 (.int .i64 1))).run Tryz.prog W = .ok (.bool true) W := fun W => by kernel_rfl
 have q22 : ∀ W, (binOp .eql 31 (.iface 132 (.int .i64 2)) (.iface 132 (.int .i64 2))).run Tryz.prog W = .ok (.bool true) W := fun W => by kernel_rfl
 rcases hv with rfl | rfl
 all_goals
  go_enter Tryz.func65, Tryz.ntmps65
  go_wp2_with (first | (go_at_call 91; refine (rangeError_any _ _ _ HL.out HS.out).mono ?_; rintro e_ w2 ⟨⟨N, rfl⟩, hb⟩) | (go_at_call 90; refine (syntaxError_any _ _ _ HL.out HS.out).mono ?_; rintro e_ w2 ⟨⟨N, rfl⟩, hb⟩))
  go_ret
  exact ⟨⟨N, rfl⟩, hb⟩
def FlE (e : Ending) : Prop := ∃ (x : Nat) (v : Value), e = .returned (.tuple #[.float .f64 x, v])
set_option maxHeartbeats 4000000 in
set_option maxRecDepth 100000 in
theorem parsePrefix_any (l : List UInt8) (hT : NumT l) (hn : l ≠ []) (w : World) (hN : LaidN w) : Calls Tryz.prog 89 #[.string (bs l), .int .i64 64] w fun e w' => AtE e ∧ Below w.heap.size w w' := by
 have HN := Aside0.mk hN
 have HT := Aside0.mk hT
 have HNE := Aside0.mk hn
 clear hN hT hn
 go_enter Tryz.func89, Tryz.ntmps89
 go_wp2_with (go_at_call 123; refine (atof64_any l HT.out HNE.out _ HN.out).mono ?_; rintro e_ w1 ⟨⟨x, n, v, rfl, hv⟩, hb⟩; have HV := Aside0.mk hv; have HB := Aside0.mk hb; clear hv hb)
 refine bodyPost_ret (results_list (rs := [.tmp 4, .tmp 5, .tmp 6]) rfl (by simp) (.tmp (.tmp (.tmp .nil)))) rfl ?_
 exact ⟨⟨_, _, _, rfl, HV.out⟩, HB.out⟩
set_option maxHeartbeats 4000000 in
set_option maxRecDepth 100000 in
theorem parseI_any (l : List UInt8) (hT : NumT l) (hn : l ≠ []) (w : World) (hN : LaidN w) : Calls Tryz.prog 64 #[.string (bs l), .int .i64 64] w fun e w' => PfE e ∧ Below w.heap.size w w' := by
 have HN := Aside0.mk hN
 have HT := Aside0.mk hT
 have HNE := Aside0.mk hn
 clear hN hT hn
 go_enter Tryz.func64, Tryz.ntmps64
 go_wp2_with (go_at_call 89; refine (parsePrefix_any l HT.out HNE.out _ HN.out).mono ?_; rintro e_ w1 ⟨⟨x, n, v, rfl, hv⟩, hb⟩; have HV := Aside0.mk hv; have HB := Aside0.mk hb; clear hv hb)
 all_goals
  refine bodyPost_ret (results_list (rs := [.tmp 4, .tmp 5]) rfl (by simp) (.tmp (.tmp .nil))) rfl ?_
  first
   | exact ⟨⟨_, _, rfl, HV.out⟩, HB.out⟩
   | exact ⟨⟨_, _, rfl, Or.inr (Or.inr rfl)⟩, HB.out⟩
set_option maxHeartbeats 4000000 in
set_option maxRecDepth 100000 in
/-- strconv.ParseFloat returns at every number's text. -/
theorem parseFloat_any (l : List UInt8) (hT : NumT l) (hn : l ≠ []) (w : World) (hN : LaidN w) (hS : LaidS w) : Calls Tryz.prog 40 #[.string (bs l), .int .i64 64] w fun e w' => FlE e ∧ Below w.heap.size w w' := by
 have HN := Aside0.mk hN
 have HS := Aside0.mk hS
 have HT := Aside0.mk hT
 have HNE := Aside0.mk hn
 have hsz := bs_size l
 have hz : (bs l).size ≤ 281474976710656 := by have := hT.len; omega
 have HZ := Aside0.mk hz
 clear hN hT hn hS hsz hz
 go_enter Tryz.func40, Tryz.ntmps40
 go_wp2_with fail
 refine (parseI_any l HT.out HNE.out _ HN.out).mono ?_
 rintro e_ w1 ⟨⟨x, v, rfl, hv⟩, hb⟩
 have HB := Aside0.mk hb
 clear hb
 rcases hv with rfl | hv
 ·go_wp2_with fail
  refine bodyPost_ret (results_list (rs := [.tmp 4, .tmp 5]) rfl (by simp) (.tmp (.tmp .nil))) rfl ?_
  exact ⟨⟨_, _, rfl⟩, HB.out⟩
 ·rcases hv with rfl | rfl
  all_goals
   go_wp2_with (go_at_call 65; refine (toError_any _ _ _ _ _ (by first | exact Or.inl rfl | exact Or.inr rfl) _ HZ.out (HS.out.below HB.out)).mono ?_; rintro e_ w2 ⟨⟨N, rfl⟩, hb2⟩; have HB2 := Aside0.mk (below_step HB.out hb2); clear hb2)
   refine bodyPost_ret (results_list (rs := [.tmp 4, .tmp 5]) rfl (by simp) (.tmp (.tmp .nil))) rfl ?_
   exact ⟨⟨_, _, rfl⟩, HB2.out⟩
end Go.Proofs.YtjleceekccehoaaGreatDoor.Pr
end

section
set_option linter.unusedVariables false
set_option linter.unusedSimpArgs false
namespace Go.Proofs.YtjleceekccehoaaGreatDoor.Pr
open Go.RowKit Go.Proofs.YtjleceekccehoaaGreatDoorW.PrintWords Go.Proofs.YtjleceekccehoaaGreatDoorW.PrintLast Go.Proofs.YtjleceekccehoaaGreatDoorW.PrintMore

def uset : List UInt8 := [121, 119, 100, 104, 109, 115]
theorem trimLeft_any (l : List UInt8) (w : World) : Calls Tryz.prog 62 #[.string (bs l), .string (bs uset)] w fun e w' => e = .returned (.string (bs (l.dropWhile (uset.contains ·)))) ∧ Below w.heap.size w w' :=
 Any.strings_TrimLeft_laid Tryz.lays161 (by kernel_rfl) (bs l) (bs uset) w (by decide) (ascii_of_all (by decide))

theorem ix0 (w : World) : (Instr.index 162 (.agg #[.string ⟨#[121]⟩, .int .i64 31536000000, .string ⟨#[119]⟩, .int .i64 604800000, .string ⟨#[100]⟩, .int .i64 86400000, .string ⟨#[104]⟩, .int .i64 3600000, .string ⟨#[109]⟩, .int .i64 60000, .string ⟨#[115]⟩, .int .i64 1000, .string ⟨#[109, 115]⟩, .int .i64 1]) (.int .i64 0)).run Tryz.prog w = .ok (.agg #[.string ⟨#[121]⟩, .int .i64 31536000000]) w := by kernel_rfl
theorem ix1 (w : World) : (Instr.index 162 (.agg #[.string ⟨#[121]⟩, .int .i64 31536000000, .string ⟨#[119]⟩, .int .i64 604800000, .string ⟨#[100]⟩, .int .i64 86400000, .string ⟨#[104]⟩, .int .i64 3600000, .string ⟨#[109]⟩, .int .i64 60000, .string ⟨#[115]⟩, .int .i64 1000, .string ⟨#[109, 115]⟩, .int .i64 1]) (.int .i64 1)).run Tryz.prog w = .ok (.agg #[.string ⟨#[119]⟩, .int .i64 604800000]) w := by kernel_rfl
theorem ix2 (w : World) : (Instr.index 162 (.agg #[.string ⟨#[121]⟩, .int .i64 31536000000, .string ⟨#[119]⟩, .int .i64 604800000, .string ⟨#[100]⟩, .int .i64 86400000, .string ⟨#[104]⟩, .int .i64 3600000, .string ⟨#[109]⟩, .int .i64 60000, .string ⟨#[115]⟩, .int .i64 1000, .string ⟨#[109, 115]⟩, .int .i64 1]) (.int .i64 2)).run Tryz.prog w = .ok (.agg #[.string ⟨#[100]⟩, .int .i64 86400000]) w := by kernel_rfl
theorem ix3 (w : World) : (Instr.index 162 (.agg #[.string ⟨#[121]⟩, .int .i64 31536000000, .string ⟨#[119]⟩, .int .i64 604800000, .string ⟨#[100]⟩, .int .i64 86400000, .string ⟨#[104]⟩, .int .i64 3600000, .string ⟨#[109]⟩, .int .i64 60000, .string ⟨#[115]⟩, .int .i64 1000, .string ⟨#[109, 115]⟩, .int .i64 1]) (.int .i64 3)).run Tryz.prog w = .ok (.agg #[.string ⟨#[104]⟩, .int .i64 3600000]) w := by kernel_rfl
theorem ix4 (w : World) : (Instr.index 162 (.agg #[.string ⟨#[121]⟩, .int .i64 31536000000, .string ⟨#[119]⟩, .int .i64 604800000, .string ⟨#[100]⟩, .int .i64 86400000, .string ⟨#[104]⟩, .int .i64 3600000, .string ⟨#[109]⟩, .int .i64 60000, .string ⟨#[115]⟩, .int .i64 1000, .string ⟨#[109, 115]⟩, .int .i64 1]) (.int .i64 4)).run Tryz.prog w = .ok (.agg #[.string ⟨#[109]⟩, .int .i64 60000]) w := by kernel_rfl
theorem ix5 (w : World) : (Instr.index 162 (.agg #[.string ⟨#[121]⟩, .int .i64 31536000000, .string ⟨#[119]⟩, .int .i64 604800000, .string ⟨#[100]⟩, .int .i64 86400000, .string ⟨#[104]⟩, .int .i64 3600000, .string ⟨#[109]⟩, .int .i64 60000, .string ⟨#[115]⟩, .int .i64 1000, .string ⟨#[109, 115]⟩, .int .i64 1]) (.int .i64 5)).run Tryz.prog w = .ok (.agg #[.string ⟨#[115]⟩, .int .i64 1000]) w := by kernel_rfl
theorem ix6 (w : World) : (Instr.index 162 (.agg #[.string ⟨#[121]⟩, .int .i64 31536000000, .string ⟨#[119]⟩, .int .i64 604800000, .string ⟨#[100]⟩, .int .i64 86400000, .string ⟨#[104]⟩, .int .i64 3600000, .string ⟨#[109]⟩, .int .i64 60000, .string ⟨#[115]⟩, .int .i64 1000, .string ⟨#[109, 115]⟩, .int .i64 1]) (.int .i64 6)).run Tryz.prog w = .ok (.agg #[.string ⟨#[109, 115]⟩, .int .i64 1]) w := by kernel_rfl
theorem eqL {x run : List UInt8} (h : (x == (bs run).toList) = true) : run = x := by
 rw [Lib.toList_data] at h
 exact (beq_iff_eq.1 h).symm
theorem neL {x run : List UInt8} (h : (x == (bs run).toList) = false) : run ≠ x := by
 rw [Lib.toList_data] at h
 exact fun e => (beq_eq_false_iff_ne.1 h) e.symm
/-- The table of units. -/
def LaidU (w : World) : Prop :=
 (w.cell? ⟨3, 0, none⟩ = some (.string ⟨#[121]⟩) ∧ w.cell? ⟨3, 1, none⟩ = some (.int .i64 31536000000)) ∧
 (w.cell? ⟨3, 2, none⟩ = some (.string ⟨#[119]⟩) ∧ w.cell? ⟨3, 3, none⟩ = some (.int .i64 604800000)) ∧
 (w.cell? ⟨3, 4, none⟩ = some (.string ⟨#[100]⟩) ∧ w.cell? ⟨3, 5, none⟩ = some (.int .i64 86400000)) ∧
 (w.cell? ⟨3, 6, none⟩ = some (.string ⟨#[104]⟩) ∧ w.cell? ⟨3, 7, none⟩ = some (.int .i64 3600000)) ∧
 (w.cell? ⟨3, 8, none⟩ = some (.string ⟨#[109]⟩) ∧ w.cell? ⟨3, 9, none⟩ = some (.int .i64 60000)) ∧
 (w.cell? ⟨3, 10, none⟩ = some (.string ⟨#[115]⟩) ∧ w.cell? ⟨3, 11, none⟩ = some (.int .i64 1000)) ∧
 (w.cell? ⟨3, 12, none⟩ = some (.string ⟨#[109, 115]⟩) ∧ w.cell? ⟨3, 13, none⟩ = some (.int .i64 1))
theorem LaidU.below {w w' : World} (h : LaidU w) (hb : Below w.heap.size w w') : LaidU w' := by
 obtain ⟨⟨a0, a1⟩, ⟨a2, a3⟩, ⟨a4, a5⟩, ⟨a6, a7⟩, ⟨a8, a9⟩, ⟨b0, b1⟩, b2, b3⟩ := h
 exact ⟨⟨pw_cell_below hb a0, pw_cell_below hb a1⟩, ⟨pw_cell_below hb a2, pw_cell_below hb a3⟩, ⟨pw_cell_below hb a4, pw_cell_below hb a5⟩, ⟨pw_cell_below hb a6, pw_cell_below hb a7⟩, ⟨pw_cell_below hb a8, pw_cell_below hb a9⟩, ⟨pw_cell_below hb b0, pw_cell_below hb b1⟩, pw_cell_below hb b2, pw_cell_below hb b3⟩
def unitOf (run : List UInt8) : Int :=
 if run = [121] then 0 else if run = [119] then 1 else if run = [100] then 2 else if run = [104] then 3 else if run = [109] then 4 else if run = [115] then 5 else if run = [109, 115] then 6 else -1
def namedS (l : List UInt8) : Int × List UInt8 := (unitOf (l.takeWhile (uset.contains ·)), if unitOf (l.takeWhile (uset.contains ·)) = -1 then [] else l.dropWhile (uset.contains ·))

set_option maxHeartbeats 4000000 in
set_option maxRecDepth 100000 in
theorem named_any (l : List UInt8) (hl : l.length ≤ 9223372036854775806) (w : World) (hU : LaidU w) :
  Calls Tryz.prog 112 #[.string (bs l)] w fun e w' => e = .returned (.tuple #[.int .i64 (namedS l).1, .string (bs (namedS l).2)]) ∧ Below w.heap.size w w' := by
 obtain ⟨rest, hrest⟩ : ∃ r, r = l.dropWhile (uset.contains ·) := ⟨_, rfl⟩
 obtain ⟨run, hrun⟩ : ∃ r, r = l.takeWhile (uset.contains ·) := ⟨_, rfl⟩
 have happ : l = run ++ rest := by rw [hrest, hrun, List.takeWhile_append_dropWhile]
 have HT : Aside0 (∀ w, Calls Tryz.prog 62 #[.string (bs l), .string (bs uset)] w fun e w' => e = .returned (.string (bs rest)) ∧ Below w.heap.size w w') := ⟨fun w => by rw [hrest]; exact trimLeft_any l w⟩
 have HN : Aside0 (namedS l = (unitOf run, if unitOf run = -1 then [] else rest)) := ⟨by unfold namedS; rw [← hrun, ← hrest]⟩
 have hlen : l.length = run.length + rest.length := by rw [happ, List.length_append]
 have t2 : (bs l).extract 0 run.length = bs run := by rw [Go.Lib.Pa.extract_upto]; unfold bs; simp [happ]
 have t3 : (bs l).extract run.length l.length = bs rest := by rw [bs_drop', happ, List.drop_left]
 have t1 : wrap64 ((l.length : Int) - (rest.length : Int)) = (run.length : Int) := by unfold wrap64; omega
 have hsz := bs_size l
 have hsz2 := bs_size rest
 have hsz3 := bs_size run
 have t4 : (0 : Int) ≤ (run.length : Int) := by omega
 have t5 : (run.length : Int) ≤ (l.length : Int) := by omega
 have hlt : 3 < w.heap.size := World.block_lt_of_cell? w _ hU.1.1
 have HU := Aside0.mk hU
 clear hrest hrun happ hU hlen
 go_enter Tryz.func112, Tryz.ntmps112
 go_wp2_with (go_at_call 62; refine (HT.out _).mono ?_; rintro e w1 ⟨rfl, hb1⟩; obtain ⟨⟨a0, a1⟩, ⟨a2, a3⟩, ⟨a4, a5⟩, ⟨a6, a7⟩, ⟨a8, a9⟩, ⟨b0, b1⟩, b2, b3⟩ := HU.out.below hb1)
 have x0 := ix0
 have x1 := ix1
 have x2 := ix2
 have x3 := ix3
 have x4 := ix4
 have x5 := ix5
 have x6 := ix6
 clear HU HT hsz2
 have HB := Aside0.mk hb1
 clear hb1
 refine wp_loop_rounds 8 ?_
 rw [rounds_succ]
 go_wp2
 ·have HE := Aside0.mk (eqL ‹([121] == (bs run).toList) = true›)
  go_quiet (fail)
  go_wp2
  go_ret2
  exact ⟨by rw [HN.out, HE.out]; rfl, by repeat (first | (with_reducible first | exact HB.out | apply below_alloc | apply pw_below_drewN | apply below_drew1) | exact HB.out)⟩
 have n0 := neL ‹([121] == (bs run).toList) = false›
 rw [rounds_succ]
 go_wp2
 ·have HE := Aside0.mk (eqL ‹([119] == (bs run).toList) = true›)
  go_quiet (fail)
  go_wp2
  go_ret2
  exact ⟨by rw [HN.out, HE.out]; rfl, by repeat (first | (with_reducible first | exact HB.out | apply below_alloc | apply pw_below_drewN | apply below_drew1) | exact HB.out)⟩
 have n1 := neL ‹([119] == (bs run).toList) = false›
 rw [rounds_succ]
 go_wp2
 ·have HE := Aside0.mk (eqL ‹([100] == (bs run).toList) = true›)
  go_quiet (fail)
  go_wp2
  go_ret2
  exact ⟨by rw [HN.out, HE.out]; rfl, by repeat (first | (with_reducible first | exact HB.out | apply below_alloc | apply pw_below_drewN | apply below_drew1) | exact HB.out)⟩
 have n2 := neL ‹([100] == (bs run).toList) = false›
 rw [rounds_succ]
 go_wp2
 ·have HE := Aside0.mk (eqL ‹([104] == (bs run).toList) = true›)
  go_quiet (fail)
  go_wp2
  go_ret2
  exact ⟨by rw [HN.out, HE.out]; rfl, by repeat (first | (with_reducible first | exact HB.out | apply below_alloc | apply pw_below_drewN | apply below_drew1) | exact HB.out)⟩
 have n3 := neL ‹([104] == (bs run).toList) = false›
 rw [rounds_succ]
 go_wp2
 ·have HE := Aside0.mk (eqL ‹([109] == (bs run).toList) = true›)
  go_quiet (fail)
  go_wp2
  go_ret2
  exact ⟨by rw [HN.out, HE.out]; rfl, by repeat (first | (with_reducible first | exact HB.out | apply below_alloc | apply pw_below_drewN | apply below_drew1) | exact HB.out)⟩
 have n4 := neL ‹([109] == (bs run).toList) = false›
 rw [rounds_succ]
 go_wp2
 ·have HE := Aside0.mk (eqL ‹([115] == (bs run).toList) = true›)
  go_quiet (fail)
  go_wp2
  go_ret2
  exact ⟨by rw [HN.out, HE.out]; rfl, by repeat (first | (with_reducible first | exact HB.out | apply below_alloc | apply pw_below_drewN | apply below_drew1) | exact HB.out)⟩
 have n5 := neL ‹([115] == (bs run).toList) = false›
 rw [rounds_succ]
 go_wp2
 ·have HE := Aside0.mk (eqL ‹([109, 115] == (bs run).toList) = true›)
  go_quiet (fail)
  go_wp2
  go_ret2
  exact ⟨by rw [HN.out, HE.out]; rfl, by repeat (first | (with_reducible first | exact HB.out | apply below_alloc | apply pw_below_drewN | apply below_drew1) | exact HB.out)⟩
 have n6 := neL ‹([109, 115] == (bs run).toList) = false›
 rw [rounds_succ]
 go_wp2
 go_ret2
 refine ⟨?_, by repeat (first | (with_reducible first | exact HB.out | apply below_alloc | apply pw_below_drewN | apply below_drew1) | exact HB.out)⟩
 have hu : unitOf run = -1 := by unfold unitOf; rw [if_neg n0, if_neg n1, if_neg n2, if_neg n3, if_neg n4, if_neg n5, if_neg n6]
 rw [HN.out, hu]
 rfl
end Go.Proofs.YtjleceekccehoaaGreatDoor.Pr
end

section
set_option linter.unusedVariables false
set_option linter.unusedSimpArgs false
namespace Go.Proofs.YtjleceekccehoaaGreatDoor.Pr
open Go.ChangeShapes Go.WideShapes Go.ChangeAt Go.RowKit Go.Proofs.YtjleceekccehoaaGreatDoor.Dec Go.Proofs.YtjleceekccehoaaGreatDoorW.PrintWords

/-- The rows' list. -/
def laid8 : List (String × DataW Unit) := Rows.lexTokensRow.laid
theorem sub8 : (laid8.filter fun x => !(x.1 == "unicode.White_Space" || x.1 == "strings.asciiSpace" || x.1 == "soundings/span.units")) = laidL := by kernel_rfl
theorem laidL_of {W : World} (h : laidMetH Tryz.prog laid8 W) : laidMetH Tryz.prog laidL W := by
 have := h.filter fun x => !(x.1 == "unicode.White_Space" || x.1 == "strings.asciiSpace" || x.1 == "soundings/span.units")
 rw [sub8] at this
 exact this
theorem spot_none {W : World} {a : Addr} {v : Value} (h : W.cell? a = some v) : ∃ b o, a = ⟨b, o, none⟩ := by
 obtain ⟨b, o, s⟩ := a
 cases s with
 | none => exact ⟨b, o, rfl⟩
 | some s =>
  unfold World.cell? at h
  split at h <;> simp at h
/-- A variable that holds a slice, read as a list that is not empty. -/
theorem slice_of {W : World} {name : String} {g ts te : Nat} {d : DataW Unit} {ds : List (DataW Unit)} {rest : List (DataW Unit)} {more : List (String × DataW Unit)} (hg : Tryz.prog.globalNamed name = some g) (hts : (Tryz.prog.globals[g]?).map (·.type) = some ts) (hu : Tryz.prog.underlying ts = some (.slice te))
  (hd : d = .slice ds rest) (h : laidMet Tryz.prog ((name, d) :: more) W) :
  ∃ (a : Addr) (cap n : Nat) (elems : List (DataW Unit × List MemPlace)), W.cell? ⟨g, 0, none⟩ = some (.slice (some a) elems.length cap) ∧ elems.length ≤ cap ∧ elems.map (·.1) = ds ∧
   ∀ i, i < elems.length → (W.cells? 0 (a.add (i * Tryz.prog.cellsOf te)) (Tryz.prog.cellsOf te)).bind (DataW.trod (fun _ => ()) Tryz.prog W 0 (fun _ => true) false n te) = elems[i]? := by
 subst hd
 obtain ⟨ps, ⟨g', t, cs, fuel, p, q, hg', ht, hv, hd, _, _⟩, _⟩ := h
 obtain rfl := Option.some.inj (hg.symm.trans hg')
 obtain rfl := Option.some.inj (hts.symm.trans ht)
 rcases DataW.trod_slice hu hd with ⟨_, hx⟩ | ⟨a, len, cap, elems, rest, n, rfl, hcs, hx, _, hle, _, hlen, hel, _⟩
 ·have := congrArg Prod.fst hx
  cases this
 ·have hx1 := congrArg Prod.fst hx
  subst hlen
  refine ⟨a, cap, n, elems, ?_, hle, (DataW.slice.inj hx1).1.symm, hel⟩
  have g0 : cs[0]? = some (.slice (some a) elems.length cap) := by rw [← Array.getElem?_toList, hcs]; rfl
  exact (World.var?_cell hg hv 0).trans g0
theorem gPt : Tryz.prog.globalNamed "internal/strconv.powtab" = some 17 := by kernel_rfl
theorem gLc : Tryz.prog.globalNamed "internal/strconv.leftcheats" = some 15 := by kernel_rfl
theorem gEr : Tryz.prog.globalNamed "strconv.ErrRange" = some 8 := by kernel_rfl
theorem gEs : Tryz.prog.globalNamed "strconv.ErrSyntax" = some 7 := by kernel_rfl
theorem gUn : Tryz.prog.globalNamed "soundings/span.units" = some 3 := by kernel_rfl
theorem gF8 : Tryz.prog.globalNamed "unicode/utf8.first" = some 4 := by kernel_rfl
theorem gA8 : Tryz.prog.globalNamed "unicode/utf8.acceptRanges" = some 5 := by kernel_rfl
theorem tPt : (Tryz.prog.globals[17]?).map (·.type) = some 257 := by kernel_rfl
theorem tLc : (Tryz.prog.globals[15]?).map (·.type) = some 240 := by kernel_rfl
theorem tEr : (Tryz.prog.globals[8]?).map (·.type) = some 31 := by kernel_rfl
theorem tEs : (Tryz.prog.globals[7]?).map (·.type) = some 31 := by kernel_rfl
theorem tUn : (Tryz.prog.globals[3]?).map (·.type) = some 162 := by kernel_rfl
theorem tF8 : (Tryz.prog.globals[4]?).map (·.type) = some 164 := by kernel_rfl
theorem tA8 : (Tryz.prog.globals[5]?).map (·.type) = some 167 := by kernel_rfl
theorem ptFilter : ((laidL.filter fun x => x.2.handleName?.isNone).filter fun x => x.1 == "internal/strconv.powtab") = [("internal/strconv.powtab", Rows.laid_internal_strconv_powtab)] := by kernel_rfl
theorem lcFilter : ((laidL.filter fun x => x.2.handleName?.isNone).filter fun x => x.1 == "internal/strconv.leftcheats") = [("internal/strconv.leftcheats", Go.Pinned.leftcheats)] := by kernel_rfl
theorem erFilter : ((laidL.filter fun x => x.2.handleName?.isNone).filter fun x => x.1 == "strconv.ErrRange") = [("strconv.ErrRange", Rows.laid_strconv_ErrRange)] := by kernel_rfl
theorem esFilter : ((laidL.filter fun x => x.2.handleName?.isNone).filter fun x => x.1 == "strconv.ErrSyntax") = [("strconv.ErrSyntax", Rows.laid_strconv_ErrSyntax)] := by kernel_rfl
theorem f8Filter : ((laidL.filter fun x => x.2.handleName?.isNone).filter fun x => x.1 == "unicode/utf8.first") = [("unicode/utf8.first", Lib.firstData)] := by kernel_rfl
theorem a8Filter : ((laidL.filter fun x => x.2.handleName?.isNone).filter fun x => x.1 == "unicode/utf8.acceptRanges") = [("unicode/utf8.acceptRanges", Lib.acceptData)] := by kernel_rfl
theorem unFilter : ((laid8.filter fun x => x.2.handleName?.isNone).filter fun x => x.1 == "soundings/span.units") = [("soundings/span.units", Rows.laid_soundings_span_units)] := by kernel_rfl
theorem spFilter : ((laid8.filter fun x => x.2.handleName?.isNone).filter fun x => x.1 == "strings.asciiSpace") = [("strings.asciiSpace", Lib.tabData .u8 Lib.asciiSpaceTab)] := by kernel_rfl
theorem cInt : Tryz.prog.cellsOf 3 = 1 := by kernel_rfl
theorem cLc : Tryz.prog.cellsOf 239 = 2 := by kernel_rfl
theorem cStr8 : Tryz.prog.cellsOf 9 = 1 := by kernel_rfl
theorem cI648 : Tryz.prog.cellsOf 2 = 1 := by kernel_rfl
theorem cUnit8 : Tryz.prog.cellsOf 161 = 2 := by kernel_rfl
theorem cByte8 : Tryz.prog.cellsOf 5 = 1 := by kernel_rfl
theorem cFirst8 : Tryz.prog.cellsOf 164 = 256 := by kernel_rfl
theorem cAcc8 : Tryz.prog.cellsOf 166 = 2 := by kernel_rfl
theorem addr_add (b o k : Nat) : (⟨b, o, none⟩ : Addr).add k = ⟨b, o + k, none⟩ := by
 unfold Addr.add
 split
 ·rename_i h; rw [h]; rfl
 ·rfl
theorem powtab_of {W : World} (h : laidMetH Tryz.prog laidL W) : ∃ (b o c : Nat), W.cell? ⟨17, 0, none⟩ = some (.slice (some ⟨b, o, none⟩) 9 c) ∧ 9 ≤ c ∧ ∀ i, i < 9 → ∃ v : Nat, W.cell? ⟨b, o + i, none⟩ = some (.int .i64 v) ∧ 1 ≤ v ∧ v ≤ 27 := by
 have h2 := (laidMetH_iff.1 h).1.filter fun x => x.1 == "internal/strconv.powtab"
 rw [ptFilter] at h2
 obtain ⟨a, cap, n, elems, h0, hle, hmap, hel⟩ := slice_of gPt tPt Tryz.underlying257 rfl h2
 have hn : elems.length = 9 := by have := congrArg List.length hmap; simpa using this
 have key : ∀ i, i < 9 → ∃ v : Nat, W.cell? (a.add i) = some (.int .i64 v) ∧ 1 ≤ v ∧ v ≤ 27 := by
  intro i hi
  have h3 := hel i (by omega)
  rw [cInt, Nat.mul_one, List.getElem?_eq_getElem (by omega)] at h3
  obtain ⟨c1, hc1, ht1⟩ := Option.bind_eq_some_iff.1 h3
  obtain ⟨k, hk, hx, _⟩ := DataW.trod_int Tryz.underlying3 ht1
  subst hk
  have hv := cell_of_cells?_one hc1
  have hm : (elems.map (·.1))[i]? = some (.lit (.int .i64 k)) := by rw [List.getElem?_map, List.getElem?_eq_getElem (by omega)]; simp [hx]
  rw [hmap] at hm
  have hall : ∀ i, i < 9 → ∀ k : Int, ([.lit (.int .i64 1), .lit (.int .i64 3), .lit (.int .i64 6), .lit (.int .i64 9), .lit (.int .i64 13), .lit (.int .i64 16), .lit (.int .i64 19), .lit (.int .i64 23), .lit (.int .i64 26)] : List (DataW Unit))[i]? = some (.lit (.int .i64 k)) → 1 ≤ k ∧ k ≤ 27 := by
   intro i hi k hk
   match i, hi with
   | 0, _ => (have e : (1 : Int) = k := by simpa using hk); omega
   | 1, _ => (have e : (3 : Int) = k := by simpa using hk); omega
   | 2, _ => (have e : (6 : Int) = k := by simpa using hk); omega
   | 3, _ => (have e : (9 : Int) = k := by simpa using hk); omega
   | 4, _ => (have e : (13 : Int) = k := by simpa using hk); omega
   | 5, _ => (have e : (16 : Int) = k := by simpa using hk); omega
   | 6, _ => (have e : (19 : Int) = k := by simpa using hk); omega
   | 7, _ => (have e : (23 : Int) = k := by simpa using hk); omega
   | 8, _ => (have e : (26 : Int) = k := by simpa using hk); omega
  have hb := hall i hi k hm
  exact ⟨k.toNat, by rw [hv]; congr 2; omega, by omega, by omega⟩
 obtain ⟨v0, hv0, _⟩ := key 0 (by decide)
 have e0 : a.add 0 = a := rfl
 rw [e0] at hv0
 obtain ⟨b, o, rfl⟩ := spot_none hv0
 rw [hn] at h0
 exact ⟨b, o, cap, h0, by omega, fun i hi => by obtain ⟨v, h1, h2⟩ := key i hi; rw [addr_add] at h1; exact ⟨v, h1, h2⟩⟩
theorem two_of (l : List Value) (h : l.length = 2) : ∃ a b, l = [a, b] := by
 match l, h with
 | [x, y], _ => exact ⟨x, y, rfl⟩
set_option maxRecDepth 100000 in
theorem cheats_of {W : World} (h : laidMetH Tryz.prog laidL W) : LaidC W := by
 have h2 := (laidMetH_iff.1 h).1.filter fun x => x.1 == "internal/strconv.leftcheats"
 rw [lcFilter] at h2
 obtain ⟨a, cap, n, elems, h0, hle, hmap, hel⟩ := slice_of gLc tLc Tryz.underlying240 rfl h2
 have hn : elems.length = 61 := by have := congrArg List.length hmap; rw [List.length_map, List.length_map, cheat_rows] at this; exact this
 have key : ∀ i, i < 61 → W.cell? ((a.add (i * 2)).add 0) = some (.int .i64 ((cheat i).1 : Nat)) ∧ W.cell? ((a.add (i * 2)).add 1) = some (.string (cutB i)) := by
  intro i hi
  have h3 := hel i (by omega)
  rw [cLc, List.getElem?_eq_getElem (by omega)] at h3
  obtain ⟨c1, hc1, ht1⟩ := Option.bind_eq_some_iff.1 h3
  obtain ⟨y0, y1, m, hxe, hl, t0, t1⟩ := Go.ChangeShapes.trod_struct2 Tryz.underlying239 ht1
  have hm : (elems.map (·.1))[i]? = some (elems[i]'(by omega)).1 := by rw [List.getElem?_map, List.getElem?_eq_getElem (by omega)]; rfl
  rw [hmap, List.getElem?_map, List.getElem?_eq_getElem (by rw [cheat_rows]; exact hi), hxe] at hm
  have hm2 := Option.some.inj hm
  have hch : cheat i = Go.Pinned.cheatRows[i]'(by rw [cheat_rows]; exact hi) := by unfold cheat; rw [List.getD_eq_getElem?_getD, List.getElem?_eq_getElem (by rw [cheat_rows]; exact hi)]; rfl
  rw [← hch] at hm2
  obtain ⟨k, hk, hx0, _⟩ := DataW.trod_int Tryz.underlying3 t0
  obtain ⟨s, hs, hx1, _⟩ := DataW.trod_string Tryz.underlying9 t1
  rw [hx0, hx1] at hm2
  simp only [DataW.agg.injEq, List.cons.injEq, and_true, DataW.lit.injEq, Lit.string.injEq, Lit.int.injEq, true_and] at hm2
  obtain ⟨hcl, hlen2, hcell⟩ := World.cells?_some hc1
  have b0 := hcell 0 (by omega)
  have b1 := hcell 1 (by omega)
  obtain ⟨v0, v1, rfl⟩ := two_of c1 hlen2
  clear hmap hel hxe hc1 ht1 h3 h2
  have hk2 : List.take (Tryz.prog.cellsOf 3) [v0, v1] = [Value.int .i64 k] := hk
  have hs2 : List.take (Tryz.prog.cellsOf 9) (List.drop (Tryz.prog.cellsOf 3) [v0, v1]) = [Value.string s] := hs
  rw [cInt] at hk2 hs2
  rw [cStr8] at hs2
  have e0 : v0 = .int .i64 k := by simpa using hk2
  have e1 : v1 = .string s := by simpa using hs2
  rw [b1, b0, e0, e1]
  have ek : ((cheat i).1 : Int) = k := hm2.1
  have es : (cheat i).2 = s.data.toList := hm2.2
  refine ⟨?_, ?_⟩
  ·show some (Value.int .i64 k) = _
   rw [← ek]
  ·show some (Value.string s) = _
   unfold cutB
   rw [es]
 obtain ⟨hv0, _⟩ := key 0 (by decide)
 have e0 : (a.add (0 * 2)).add 0 = a := rfl
 rw [e0] at hv0
 obtain ⟨b, o, rfl⟩ := spot_none hv0
 rw [hn] at h0
 refine ⟨b, o, cap, h0, by omega, fun i hi => ?_⟩
 obtain ⟨h1, h2⟩ := key i hi
 rw [addr_add, addr_add] at h1 h2
 exact ⟨h1, h2⟩
theorem floats_of {W : World} (h : laidMetH Tryz.prog laidL W) : ∃ (b o c : Nat), W.cell? ⟨18, 0, none⟩ = some (.slice (some ⟨b, o, none⟩) 23 c) ∧ 23 ≤ c ∧ ∀ i, i < 23 → ∃ x : Nat, W.cell? ⟨b, o + i, none⟩ = some (.float .f64 x) := by
 have h2 := (laidMetH_iff.1 h).1.filter fun x => x.1 == "internal/strconv.float64pow10"
 rw [flFilter] at h2
 obtain ⟨a, cap, n, elems, h0, hle, hmap, hel⟩ := slice_of gFl tFl Tryz.underlying258 rfl h2
 have hn : elems.length = 23 := by have := congrArg List.length hmap; simpa using this
 have key : ∀ i, i < 23 → ∃ x : Nat, W.cell? (a.add i) = some (.float .f64 x) := by
  intro i hi
  have h3 := hel i (by omega)
  rw [cFloat, Nat.mul_one, List.getElem?_eq_getElem (by omega)] at h3
  obtain ⟨c1, hc1, ht1⟩ := Option.bind_eq_some_iff.1 h3
  obtain ⟨bb, hcc, hxx⟩ := trod_float Tryz.underlying51 ht1
  subst hcc
  exact ⟨bb, cell_of_cells?_one hc1⟩
 obtain ⟨v0, hv0⟩ := key 0 (by decide)
 have e0 : a.add 0 = a := rfl
 rw [e0] at hv0
 obtain ⟨b, o, rfl⟩ := spot_none hv0
 rw [hn] at h0
 exact ⟨b, o, cap, h0, by omega, fun i hi => by obtain ⟨v, h1⟩ := key i hi; rw [addr_add] at h1; exact ⟨v, h1⟩⟩
theorem trod_iface_cs {H : Type} {enc : TypeId × Value → H} {P : Program} {w : World} {base : Nat} {spare : Nat → Bool} {held : Bool} {fuel : Nat} {t : TypeId} {cs : List Value} {x : DataW H × List MemPlace} {ms : Array (String × TypeId)} (ht : P.underlying t = some (.interface ms)) (h : DataW.trod enc P w base spare held fuel t cs = some x) :
  ∃ v, cs = [v] ∧ (v = .nilIface ∨ ∃ u p, v = .iface u p) := by
 cases fuel with
 | zero => simp [DataW.trod] at h
 | succ n =>
  unfold DataW.trod at h
  rw [ht] at h
  split at h <;> first | (simp_all; done) | (cases h; done) | (rename_i e; exact ⟨_, rfl, Or.inl rfl⟩) | exact ⟨_, rfl, Or.inr ⟨_, _, rfl⟩⟩ | simp_all
theorem err_of {W : World} {name : String} {g : Nat} {d : DataW Unit} {more : List (String × DataW Unit)} (hg : Tryz.prog.globalNamed name = some g) (ht : (Tryz.prog.globals[g]?).map (·.type) = some 31) (h : laidMet Tryz.prog ((name, d) :: more) W) :
  ∃ v, W.cell? ⟨g, 0, none⟩ = some v ∧ (v = .nilIface ∨ ∃ te pe, v = .iface te pe) := by
 obtain ⟨ps, ⟨g', t, cs, fuel, p, q, hg', ht', hv, hd, _, _⟩, _⟩ := h
 obtain rfl := Option.some.inj (hg.symm.trans hg')
 obtain rfl := Option.some.inj (ht.symm.trans ht')
 obtain ⟨v, hv1, hv2⟩ := trod_iface_cs Tryz.underlying31 hd
 refine ⟨v, ?_, hv2⟩
 have g0 : cs[0]? = some v := by rw [← Array.getElem?_toList, hv1]; rfl
 exact (World.var?_cell hg' hv 0).trans g0
theorem errs_of {W : World} (h : laidMetH Tryz.prog laidL W) : LaidS W := by
 have h2 := (laidMetH_iff.1 h).1.filter fun x => x.1 == "strconv.ErrRange"
 rw [erFilter] at h2
 have h3 := (laidMetH_iff.1 h).1.filter fun x => x.1 == "strconv.ErrSyntax"
 rw [esFilter] at h3
 exact ⟨err_of gEr tEr h2, err_of gEs tEs h3⟩
theorem three_of {α : Type} (l : List α) (h : l.length = 3) : ∃ a b c, l = [a, b, c] := by
 match l, h with
 | [x, y, z], _ => exact ⟨x, y, z, rfl⟩
set_option maxRecDepth 100000 in
theorem info3_of {W : World} (h : laidMetH Tryz.prog laidL W) : W.cell? ⟨13, 0, none⟩ = some (.int .u64 52) ∧ W.cell? ⟨13, 1, none⟩ = some (.int .u64 11) ∧ W.cell? ⟨13, 2, none⟩ = some (.int .i64 (-1023)) := by
 have h2 := (laidMetH_iff.1 h).1.filter fun x => x.1 == "internal/strconv.float64info"
 rw [infoFilter] at h2
 obtain ⟨ps, ⟨g, t, cs, fuel, p, q, hg, ht, hv, hd, _, _⟩, _⟩ := h2
 obtain rfl := Option.some.inj (gInfo.symm.trans hg)
 obtain rfl := Option.some.inj (tInfo.symm.trans ht)
 obtain ⟨xs, n, rfl, hx, hl, hxl, hall⟩ := DataW.trod_struct Tryz.underlying214 hd
 have hx0 : xs.map (·.1) = [.lit (.int .u64 52), .lit (.int .u64 11), .lit (.int .i64 (-1023))] := by
  have := congrArg Prod.fst hx
  exact (DataW.agg.inj this).symm
 obtain ⟨x0, x1, x2, rfl⟩ := three_of xs (by have := congrArg List.length hx0; simpa using this)
 simp only [List.map_cons, List.map_nil, List.cons.injEq, and_true] at hx0
 obtain ⟨e0, e1, e2⟩ := hx0
 have h0 : DataW.trod (fun _ => ()) Tryz.prog W 0 (fun _ => true) false n 168 ((cs.toList.drop 0).take (Tryz.prog.cellsOf 168)) = some x0 := hall 0 _ rfl
 have h1 : DataW.trod (fun _ => ()) Tryz.prog W 0 (fun _ => true) false n 168 ((cs.toList.drop 1).take (Tryz.prog.cellsOf 168)) = some x1 := hall 1 _ rfl
 have h2 : DataW.trod (fun _ => ()) Tryz.prog W 0 (fun _ => true) false n 3 ((cs.toList.drop 2).take (Tryz.prog.cellsOf 3)) = some x2 := hall 2 _ rfl
 rw [cUint] at h0 h1
 rw [cInt] at h2
 obtain ⟨k0, hk0, hxx0, _⟩ := DataW.trod_int Tryz.underlying168 h0
 obtain ⟨k1, hk1, hxx1, _⟩ := DataW.trod_int Tryz.underlying168 h1
 obtain ⟨k2, hk2, hxx2, _⟩ := DataW.trod_int Tryz.underlying3 h2
 rw [hxx0] at e0
 rw [hxx1] at e1
 rw [hxx2] at e2
 have f0 : k0 = 52 := by simpa only [DataW.lit.injEq, Lit.int.injEq, true_and] using e0
 have f1 : k1 = 11 := by simpa only [DataW.lit.injEq, Lit.int.injEq, true_and] using e1
 have f2 : k2 = -1023 := by simpa only [DataW.lit.injEq, Lit.int.injEq, true_and] using e2
 subst f0; subst f1; subst f2
 have g0 : cs.toList[0]? = some (.int .u64 52) := by have := congrArg (·[0]?) hk0; simpa [List.getElem?_take, List.getElem?_drop] using this
 have g1 : cs.toList[1]? = some (.int .u64 11) := by have := congrArg (·[0]?) hk1; simpa [List.getElem?_take, List.getElem?_drop] using this
 have g2 : cs.toList[2]? = some (.int .i64 (-1023)) := by have := congrArg (·[0]?) hk2; simpa [List.getElem?_take, List.getElem?_drop] using this
 rw [Array.getElem?_toList] at g0 g1 g2
 exact ⟨(World.var?_cell hg hv 0).trans g0, (World.var?_cell hg hv 1).trans g1, (World.var?_cell hg hv 2).trans g2⟩
theorem laidN_of {W : World} (h : laidMetH Tryz.prog laidL W) : LaidN W :=
 ⟨⟨pow_of h, fun i hi => (tab_of h i hi).1, fun i hi => (tab_of h i hi).2⟩, cheats_of h, ⟨powtab_of h, (info3_of h).1, (info3_of h).2.1, (info3_of h).2.2⟩, ⟨(info3_of h).1, floats_of h⟩, opt_of h⟩
theorem unit_cells {W : World} {fuel : Nat} {c : List Value} {x : DataW Unit × List MemPlace} (h : DataW.trod (fun _ => ()) Tryz.prog W 0 (fun _ => true) false fuel 161 c = some x) (l : List UInt8) (n : Int)
  (hx : x.1 = .agg [.lit (.string l), .lit (.int .i64 n)]) : c[0]? = some (.string ⟨l.toArray⟩) ∧ c[1]? = some (.int .i64 n) := by
 obtain ⟨y0, y1, m, rfl, hl, t0, t1⟩ := Go.ChangeShapes.trod_struct2 Tryz.underlying161 h
 simp only [DataW.agg.injEq, List.cons.injEq, and_true] at hx
 obtain ⟨s, hs, rfl, _⟩ := DataW.trod_string Tryz.underlying9 t0
 obtain ⟨k, hk, rfl, _⟩ := DataW.trod_int Tryz.underlying2 t1
 simp only [DataW.lit.injEq, Lit.string.injEq, Lit.int.injEq, true_and] at hx
 obtain ⟨rfl, rfl⟩ := hx
 constructor
 ·have := congrArg (·[0]?) hs
  rw [cStr8] at this
  simpa using this
 ·have := congrArg (·[0]?) hk
  rw [cI648] at this
  simpa [List.getElem?_take, List.getElem?_drop] using this
theorem laidU_of {W : World} (h : laidMetH Tryz.prog laid8 W) : LaidU W := by
 have h2 := (laidMetH_iff.1 h).1.filter fun x => x.1 == "soundings/span.units"
 rw [unFilter] at h2
 obtain ⟨ps, ⟨g, t, cs, fuel, p, q, hg, ht, hv, hd, _, _⟩, _⟩ := h2
 obtain rfl := Option.some.inj (gUn.symm.trans hg)
 obtain rfl := Option.some.inj (tUn.symm.trans ht)
 obtain ⟨xs, m, _, hx, hl, hn, hel⟩ := DataW.trod_array Tryz.underlying162 hd
 have hx1 : xs.map (·.1) = [.agg [.lit (.string [121]), .lit (.int .i64 31536000000)], .agg [.lit (.string [119]), .lit (.int .i64 604800000)], .agg [.lit (.string [100]), .lit (.int .i64 86400000)], .agg [.lit (.string [104]), .lit (.int .i64 3600000)], .agg [.lit (.string [109]), .lit (.int .i64 60000)], .agg [.lit (.string [115]), .lit (.int .i64 1000)], .agg [.lit (.string [109, 115]), .lit (.int .i64 1)]] := by
  have := congrArg Prod.fst hx
  exact (DataW.agg.inj this).symm
 have key : ∀ (i : Nat) (l : List UInt8) (n : Int), i < 7 → (xs.map (·.1))[i]? = some (.agg [.lit (.string l), .lit (.int .i64 n)]) → W.cell? ⟨3, 2 * i, none⟩ = some (.string ⟨l.toArray⟩) ∧ W.cell? ⟨3, 2 * i + 1, none⟩ = some (.int .i64 n) := by
  intro i l n hi he
  rw [List.getElem?_map, Option.map_eq_some_iff] at he
  obtain ⟨x, hxi, hxe⟩ := he
  have h3 := hel i hi
  rw [hxi, cUnit8] at h3
  obtain ⟨k0, k1⟩ := unit_cells h3 l n hxe
  have c0 := World.var?_cell hg hv (2 * i)
  have c1 := World.var?_cell hg hv (2 * i + 1)
  simp only [List.getElem?_take, List.getElem?_drop] at k0 k1
  rw [c0, c1]
  constructor
  ·rw [Nat.mul_comm 2 i, ← k0]; simp
  ·rw [Nat.mul_comm 2 i, ← k1]; simp
 rw [hx1] at key
 exact ⟨key 0 _ _ (by decide) rfl, key 1 _ _ (by decide) rfl, key 2 _ _ (by decide) rfl, key 3 _ _ (by decide) rfl, key 4 _ _ (by decide) rfl, key 5 _ _ (by decide) rfl, key 6 _ _ (by decide) rfl⟩
theorem laidV8_of {W : World} (h : laidMetH Tryz.prog laidL W) : Lib.Utf8Tabs 4 5 W := by
 have h2 := (laidMetH_iff.1 h).1.filter fun x => x.1 == "unicode/utf8.first"
 rw [f8Filter] at h2
 have h3 := (laidMetH_iff.1 h).1.filter fun x => x.1 == "unicode/utf8.acceptRanges"
 rw [a8Filter] at h3
 have r1 := Lib.laidMet.reads h2 (List.Mem.head _)
 have r2 := Lib.laidMet.reads h3 (List.Mem.head _)
 obtain ⟨a, ta, ca, fa, pa, n1, y1, v1, d1⟩ := r1
 obtain ⟨b, tb, cb, fb, pb, n2, y2, v2, d2⟩ := r2
 obtain rfl := Option.some.inj (gF8.symm.trans n1)
 obtain rfl := Option.some.inj (tF8.symm.trans y1)
 obtain rfl := Option.some.inj (gA8.symm.trans n2)
 obtain rfl := Option.some.inj (tA8.symm.trans y2)
 have hca := Lib.cells_of_tab Tryz.underlying164 Tryz.underlying5 cByte8 cFirst8 d1
 constructor
 ·intro c hc
  have hcell := World.var?_cell n1 v1 c
  have hget : ca.toList[c]? = some (.int .u8 (Lib.firstT c)) := by rw [hca]; simp [Lib.firstTab, hc]
  rw [Array.getElem?_toList] at hget
  exact hcell.trans hget
 ·intro i hi
  obtain ⟨f2, d, q, hdi, he⟩ := Lib.array_elem Tryz.underlying167 d2 i hi
  have hdd : d = .agg ([(Lib.accLo i : Int), (Lib.accHi i : Int)].map fun z => .lit (.int .u8 z)) := by
   rw [List.getElem?_map, List.getElem?_range hi] at hdi
   exact (Option.some.inj hdi).symm
  rw [hdd, cAcc8] at he
  have hints := Lib.ints_of_struct Tryz.underlying166 (fun j f hj => by
   match j, hj with
   | 0, hj => (have := Option.some.inj hj; subst this; exact ⟨Tryz.underlying5, rfl, cByte8⟩)
   | 1, hj => (have := Option.some.inj hj; subst this; exact ⟨Tryz.underlying5, rfl, cByte8⟩)
   | j + 2, hj => (exfalso; simp at hj)) cAcc8 he
  have g0 : cb.toList[2 * i]? = some (.int .u8 (Lib.accLo i)) := by
   have := congrArg (·[0]?) hints
   simpa [List.getElem?_take, List.getElem?_drop, Nat.mul_comm] using this
  have g1 : cb.toList[2 * i + 1]? = some (.int .u8 (Lib.accHi i)) := by
   have := congrArg (·[1]?) hints
   simpa [List.getElem?_take, List.getElem?_drop, Nat.mul_comm] using this
  rw [Array.getElem?_toList] at g0 g1
  exact ⟨(World.var?_cell n2 v2 (2 * i)).trans g0, (World.var?_cell n2 v2 (2 * i + 1)).trans g1⟩
theorem laidB_of {W : World} (h : laidMetH Tryz.prog laid8 W) : Lib.TabIs Tryz.prog W "strings.asciiSpace" .u8 Lib.asciiSpaceTab := by
 have h2 := (laidMetH_iff.1 h).1.filter fun x => x.1 == "strings.asciiSpace"
 rw [spFilter] at h2
 exact Lib.tabIs_of_head (rest := []) (g := 6) (by kernel_rfl) (t := 164) (n := 256) (by kernel_rfl) Tryz.underlying164 Tryz.underlying5 (by kernel_rfl) (by kernel_rfl) h2
end Go.Proofs.YtjleceekccehoaaGreatDoor.Pr
end
