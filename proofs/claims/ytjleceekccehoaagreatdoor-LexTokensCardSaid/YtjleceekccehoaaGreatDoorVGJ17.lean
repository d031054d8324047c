/- Texts of this session, cut down to what one claim needs and joined: LexD, LexT, FfNumT, FfValG, SpanP. -/
import Derived.Test.YtjleceekccehoaaGreatDoorVGJ16
import Derived.Test.YtjleceekccehoaaGreatDoorVGJ14
import Derived.Test.YtjleceekccehoaaGreatDoorVGJ7
import Derived.Lib.IndexLaws
import Derived.Test.YtjleceekccehoaaGreatDoorVGJ13
import Derived.Test.YtjleceekccehoaaGreatDoorVGJ3
section
set_option linter.unusedVariables false
set_option linter.unusedSimpArgs false
namespace Go.Proofs.YtjleceekccehoaaGreatDoor.Pr
open Go.RowKit Go.Proofs.YtjleceekccehoaaGreatDoorW.PrintWords Go.Proofs.YtjleceekccehoaaGreatDoorW.PrintLast Go.Proofs.YtjleceekccehoaaGreatDoorW.PrintMore

def wordV (s : List UInt8) : Nat := match s with | c :: _ => if isLet c.toNat = true then run (fun z => isLet z || isDig z) s else 0 | [] => 0
def tok0 : Value := .agg #[.int .i64 0, .int .i64 0, .string ⟨#[]⟩]
set_option maxHeartbeats 4000000 in
set_option maxRecDepth 100000 in
theorem word_any (l : List UInt8) (hl : l.length ≤ 1000000) (i : Nat) (c : UInt8) (r : List UInt8) (hA : At l i (c :: r)) (w : World) :
  Calls Tryz.prog 49 #[.agg #[.string (bs l), .int .i64 i]] w fun e w' => e = .returned (.tuple #[if isLet c.toNat = true then .agg #[.int .i64 1, .int .i64 0, .string (bs ((c :: r).take (wordV (c :: r))))] else tok0, .int .i64 (wordV (c :: r))]) ∧ Below w.heap.size w w' := by
 have hsz := bs_size l
 have hlt := hA.lt
 have hb := hA.byte
 have hz : ∀ h : i < (bs l).size, ((bs l)[i]'h).toNat = c.toNat := fun h => by
  have h1 := hb
  unfold bt at h1
  rw [dif_pos (by simpa using h)] at h1
  simp only [Int.toNat_natCast] at h1
  omega
 obtain ⟨z, hzz⟩ : ∃ z, c.toNat = z := ⟨_, rfl⟩
 rw [hzz] at hz ⊢
 have HV : Aside0 (wordV (c :: r) = if isLet z = true then run (fun z => isLet z || isDig z) (c :: r) else 0) := ⟨by unfold wordV; rw [← hzz]⟩
 obtain ⟨s, hs⟩ : ∃ s, c :: r = s := ⟨_, rfl⟩
 rw [hs] at HV hA ⊢
 obtain ⟨n, hn⟩ : ∃ n, run (fun z => isLet z || isDig z) s = n := ⟨_, rfl⟩
 have r1 := run_le (fun z => isLet z || isDig z) s
 have q1 : (bs (s.take n)).size = n := by rw [bs_size, List.length_take, ← hn, Nat.min_eq_left r1]
 have W1 : Aside0 (∀ w, Calls Tryz.prog 45 #[.agg #[.string (bs l), .int .i64 i], .func (.func 71) #[] #[]] w fun e w' => e = .returned (.string (bs (s.take n))) ∧ Below w.heap.size w w') := ⟨fun w => by rw [← hn]; exact while_any _ _ word1_any en71 l hl i s hA w⟩
 rw [hn] at HV
 obtain ⟨b1, hb1⟩ : ∃ b, bs (s.take n) = b := ⟨_, rfl⟩
 have HB1 := Aside0.mk hb1
 rw [hb1] at q1
 have W2 : Aside0 (∀ w, Calls Tryz.prog 45 #[.agg #[.string (bs l), .int .i64 i], .func (.func 71) #[] #[]] w fun e w' => e = .returned (.string b1) ∧ Below w.heap.size w w') := ⟨by rw [← hb1]; exact W1.out⟩
 have t2 : (0 : Int) ≤ (i : Int) := by omega
 have t3 : (i : Int) < (l.length : Int) := by omega
 have HB := Aside0.mk (RBox.new (w0 := w) w l i (Below.refl _ _))
 have x0 := HB.out.c0
 have x1 := HB.out.c1
 obtain ⟨b, hbl⟩ : ∃ b, isLet z = b := ⟨_, rfl⟩
 have HBL := Aside0.mk hbl
 rw [hbl] at HV ⊢
 clear hA hl hlt hb hs hzz hn hb1 r1 W1 hbl
 cases b
 ·have HW : Aside0 (wordV s = 0) := ⟨by rw [HV.out]; rfl⟩
  rw [HW.out]
  go_enter Tryz.func49, Tryz.ntmps49
  go_wp2_with (go_at_call 70; refine (letter_any z _).mono ?_; rw [HBL.out]; rintro e_ w' ⟨rfl, rfl⟩)
  have HG : ((w.alloc (.cells #[.string (bs l), .int .i64 i] 57)).alloc (.cells #[.int .i64 0, .int .i64 0, .string ⟨#[]⟩] 41)).heap[w.heap.size + 1]? = some (.cells #[.int .i64 0, .int .i64 0, .string ⟨#[]⟩] 41 (0, 0)) := by
   have h := heap_alloc_new (w.alloc (.cells #[.string (bs l), .int .i64 i] 57)) (.cells #[.int .i64 0, .int .i64 0, .string ⟨#[]⟩] 41)
   rwa [show (w.alloc (.cells #[.string (bs l), .int .i64 i] 57)).heap.size = w.heap.size + 1 from Array.size_push _] at h
  refine bodyPost_ret (results_list (rs := [.cell 2 41, .tmp 3]) rfl (by simp) (.cell (w.heap.size + 1) 41 _ (0, 0) _ rfl HG rfl rfl rfl (.tmp .nil))) rfl ?_
  exact ⟨rfl, below_alloc (below_alloc (Below.refl _ _) _) _⟩
 ·have HW : Aside0 (wordV s = n) := ⟨by rw [HV.out]; rfl⟩
  rw [HW.out, HB1.out]
  go_enter Tryz.func49, Tryz.ntmps49
  go_wp2_with (go_at_call 70; refine (letter_any z _).mono ?_; rw [HBL.out]; rintro e_ w' ⟨rfl, rfl⟩)
  refine (W2.out _).mono ?_
  rintro e_ w1 ⟨rfl, hb1⟩
  have HG0 := heap_alloc_new (w.alloc (.cells #[.string (bs l), .int .i64 i] 57)) (.cells #[.int .i64 0, .int .i64 0, .string ⟨#[]⟩] 41)
  rw [show (w.alloc (.cells #[.string (bs l), .int .i64 i] 57)).heap.size = w.heap.size + 1 from Array.size_push _] at HG0
  have HG : w1.heap[w.heap.size + 1]? = some (.cells #[.int .i64 0, .int .i64 0, .string ⟨#[]⟩] 41 (0, 0)) := (hb1.block (w.heap.size + 1) (by rcases Nat.lt_or_ge (w.heap.size + 1) ((w.alloc (.cells #[.string (bs l), .int .i64 i] 57)).alloc (.cells #[.int .i64 0, .int .i64 0, .string ⟨#[]⟩] 41)).heap.size with h | h; exact h; rw [Array.getElem?_eq_none h] at HG0; cases HG0)).trans HG0
  have k0 : w1.cell? ⟨w.heap.size + 1, 0, none⟩ = some (.int .i64 0) := (blk_cell HG 0).trans rfl
  have k1 : w1.cell? ⟨w.heap.size + 1, 1, none⟩ = some (.int .i64 0) := (blk_cell HG 1).trans rfl
  have k2 : w1.cell? ⟨w.heap.size + 1, 2, none⟩ = some (.string ⟨#[]⟩) := (blk_cell HG 2).trans rfl
  have f0 : w1.frozen? ⟨w.heap.size + 1, 0, none⟩ = false := by simp [World.frozen?, HG]
  have f1 : w1.frozen? ⟨w.heap.size + 1, 1, none⟩ = false := by simp [World.frozen?, HG]
  have f2 : w1.frozen? ⟨w.heap.size + 1, 2, none⟩ = false := by simp [World.frozen?, HG]
  have HGA := Aside0.mk HG
  have HB9 := Aside0.mk hb1
  clear HG HG0 hb1
  go_wp2_with fail
  have HG2 : ((((w1.setCell ⟨w.heap.size + 1, 0, none⟩ (.int .i64 1)).setCell ⟨w.heap.size + 1, 1, none⟩ (.int .i64 0)).setCell ⟨w.heap.size + 1, 2, none⟩ (.string b1))).heap[w.heap.size + 1]? = some (.cells #[.int .i64 1, .int .i64 0, .string b1] 41 (0, 0)) := by
   have h := HGA.out
   simp [World.setCell, Array.getElem?_modify, h]
  refine bodyPost_ret (results_list (rs := [.cell 2 41, .tmp 3]) rfl (by simp) (.cell (w.heap.size + 1) 41 _ (0, 0) _ rfl HG2 rfl rfl rfl (.tmp .nil))) rfl ?_
  exact ⟨rfl, below_set (below_set (below_set (below_step (below_alloc (below_alloc (Below.refl _ _) _) _) HB9.out) (Nat.le_succ _)) (Nat.le_succ _)) (Nat.le_succ _)⟩
end Go.Proofs.YtjleceekccehoaaGreatDoor.Pr
end

section
set_option linter.unusedVariables false
set_option linter.unusedSimpArgs false
namespace Go.Proofs.YtjleceekccehoaaGreatDoor.Pr
open Go.RowKit Go.Proofs.YtjleceekccehoaaGreatDoorW.PrintWords Go.Proofs.YtjleceekccehoaaGreatDoorW.PrintLast Go.Proofs.YtjleceekccehoaaGreatDoorW.PrintMore

/-- A token: its kind, its text, and how many bytes it has. -/
abbrev Tk := Option (Nat × List UInt8 × Nat)
def tkV : Tk → Value
 | none => .tuple #[tok0, .int .i64 0]
 | some (k, t, n) => .tuple #[.agg #[.int .i64 k, .int .i64 0, .string (bs t)], .int .i64 n]
theorem heap_tok0 (w : World) (l : List UInt8) (i : Nat) : ((w.alloc (.cells #[.string (bs l), .int .i64 i] 57)).alloc (.cells #[.int .i64 0, .int .i64 0, .string ⟨#[]⟩] 41)).heap[w.heap.size + 1]? = some (.cells #[.int .i64 0, .int .i64 0, .string ⟨#[]⟩] 41 (0, 0)) := by
 have h := heap_alloc_new (w.alloc (.cells #[.string (bs l), .int .i64 i] 57)) (.cells #[.int .i64 0, .int .i64 0, .string ⟨#[]⟩] 41)
 rwa [show (w.alloc (.cells #[.string (bs l), .int .i64 i] 57)).heap.size = w.heap.size + 1 from Array.size_push _] at h
/-- The result variable for a token: block g, made since w0. -/
structure TkB (w0 w : World) (g : Nat) : Prop where
 blk : w.heap[g]? = some (.cells #[.int .i64 0, .int .i64 0, .string ⟨#[]⟩] 41 (0, 0))
 ge : w0.heap.size ≤ g
 bel : Below w0.heap.size w0 w
section
variable {w0 w w' : World} {g : Nat}
theorem TkB.c0 (h : TkB w0 w g) : w.cell? ⟨g, 0, none⟩ = some (.int .i64 0) := (blk_cell h.blk 0).trans rfl
theorem TkB.c1 (h : TkB w0 w g) : w.cell? ⟨g, 1, none⟩ = some (.int .i64 0) := (blk_cell h.blk 1).trans rfl
theorem TkB.c2 (h : TkB w0 w g) : w.cell? ⟨g, 2, none⟩ = some (.string ⟨#[]⟩) := (blk_cell h.blk 2).trans rfl
theorem TkB.f0 (h : TkB w0 w g) (i : Nat) : w.frozen? ⟨g, i, none⟩ = false := by have h1 := h.blk; simp [World.frozen?, h1]
theorem TkB.below (h : TkB w0 w g) (hb : Below w.heap.size w w') : TkB w0 w' g := ⟨(hb.block g (heap_lt h.blk)).trans h.blk, h.ge, below_step h.bel hb⟩
theorem TkB.set3 (h : TkB w0 w g) (x y : Value) (b : ByteArray) : (((w.setCell ⟨g, 0, none⟩ x).setCell ⟨g, 1, none⟩ y).setCell ⟨g, 2, none⟩ (.string b)).heap[g]? = some (.cells #[x, y, .string b] 41 (0, 0)) := by
 have h1 := h.blk
 simp [World.setCell, Array.getElem?_modify, h1]
theorem TkB.bel3 (h : TkB w0 w g) (x y z : Value) : Below w0.heap.size w0 (((w.setCell ⟨g, 0, none⟩ x).setCell ⟨g, 1, none⟩ y).setCell ⟨g, 2, none⟩ z) := below_set (below_set (below_set h.bel h.ge) h.ge) h.ge
end
theorem TkB.new (w : World) (l : List UInt8) (i : Nat) : TkB w ((w.alloc (.cells #[.string (bs l), .int .i64 i] 57)).alloc (.cells #[.int .i64 0, .int .i64 0, .string ⟨#[]⟩] 41)) (w.heap.size + 1) :=
 ⟨heap_tok0 w l i, Nat.le_succ _, below_alloc (below_alloc (Below.refl _ _) _) _⟩
end Go.Proofs.YtjleceekccehoaaGreatDoor.Pr
end

section
set_option linter.unusedVariables false
set_option linter.unusedSimpArgs false
namespace Go.Proofs.YtjleceekccehoaaGreatDoor.Pr
open Go.RowKit

theorem dig_num {c : UInt8} (h : dgs.contains c = true) : NumC c := by
 simp only [dgs, List.contains_eq_mem, List.mem_cons, List.not_mem_nil, or_false, decide_eq_true_eq] at h
 rcases h with rfl | rfl | rfl | rfl | rfl | rfl | rfl | rfl | rfl | rfl <;> exact Or.inl (by decide)
theorem tw_mem {p : UInt8 → Bool} : ∀ {l : List UInt8} {c : UInt8}, c ∈ l.takeWhile p → p c = true := by
 intro l
 induction l with
 | nil => intro c h; cases h
 | cons d r ih =>
  intro c h
  rw [List.takeWhile_cons] at h
  split at h
  ·rcases List.mem_cons.1 h with rfl | h1
   ·assumption
   ·exact ih h1
  ·cases h
theorem all_dropD {l : List UInt8} (h : ∀ c ∈ dropD l, NumC c) : ∀ c ∈ l, NumC c := by
 intro c hc
 rw [← List.takeWhile_append_dropWhile (p := (dgs.contains ·)) (l := l)] at hc
 rcases List.mem_append.1 hc with h1 | h1
 ·exact dig_num (tw_mem h1)
 ·exact h c h1
theorem among_mem {some : List UInt8} {c : UInt8} {r : List UInt8} (h : among some (c :: r) = true) : c ∈ some := by
 have h1 := of_decide_eq_true h
 obtain ⟨o, ho⟩ : ∃ o : Nat, Lib.indexByte some c = o := ⟨(Lib.indexByte some c).toNat, by omega⟩
 exact List.mem_of_getElem? (Lib.indexByte_some ho).1
theorem all_dropS {some : List UInt8} (hs : ∀ c ∈ some, NumC c) {l : List UInt8} (h : ∀ c ∈ dropS some l, NumC c) : ∀ c ∈ l, NumC c := by
 intro c hc
 unfold dropS at h
 split at h
 ·rename_i ha
  cases l with
  | nil => cases hc
  | cons d r =>
   rcases List.mem_cons.1 hc with rfl | h1
   ·exact hs _ (among_mem ha)
   ·exact h c h1
 ·exact h c hc
theorem plain_all {l : List UInt8} (h : plainV l = true) : ∀ c ∈ l, NumC c := by
 unfold plainV at h
 have n45 : ∀ c ∈ [(45 : UInt8)], NumC c := by intro c hc; simp at hc; subst hc; exact by unfold NumC; decide
 have n46 : ∀ c ∈ [(46 : UInt8)], NumC c := by intro c hc; simp at hc; subst hc; exact by unfold NumC; decide
 have ne : ∀ c ∈ [(101 : UInt8), 69], NumC c := by intro c hc; simp at hc; rcases hc with rfl | rfl <;> (unfold NumC; decide)
 have ns : ∀ c ∈ [(43 : UInt8), 45], NumC c := by intro c hc; simp at hc; rcases hc with rfl | rfl <;> (unfold NumC; decide)
 have h4 : ∀ c ∈ pl4 l, NumC c := by
  split at h
  ·cases h
  ·split at h
   ·split at h
    ·cases h
    ·have h6 : dropD (pl6 l) = [] := List.isEmpty_iff.1 h
     have a6 : ∀ c ∈ pl6 l, NumC c := all_dropD (by rw [h6]; intro c hc; cases hc)
     have a5 : ∀ c ∈ pl5 l, NumC c := all_dropS ns a6
     exact all_dropS ne a5
   ·have h6 : pl4 l = [] := List.isEmpty_iff.1 h
    rw [h6]; intro c hc; cases hc
 have h3 : ∀ c ∈ pl3 l, NumC c := by
  unfold pl4 at h4
  split at h4
  ·exact all_dropD h4
  ·exact h4
 have h2 : ∀ c ∈ pl2 l, NumC c := all_dropS n46 h3
 have h1 : ∀ c ∈ pl1 l, NumC c := all_dropD h2
 exact all_dropS n45 h1
theorem plain_numT {l : List UInt8} (h : plainV l = true) (hl : l.length ≤ 200) (hf : ∀ c, l[0]? = some c → (48 ≤ c.toNat ∧ c.toNat ≤ 57) ∨ c.toNat = 46) : NumT l :=
 ⟨hl, fun i c hc => plain_all h c (List.mem_of_getElem? hc), hf⟩
end Go.Proofs.YtjleceekccehoaaGreatDoor.Pr
end

section
set_option linter.unusedVariables false
set_option linter.unusedSimpArgs false
namespace Go.Proofs.YtjleceekccehoaaGreatDoor.Pr
open Go.RowKit Go.Proofs.YtjleceekccehoaaGreatDoorW.PrintWords Go.Proofs.YtjleceekccehoaaGreatDoorW.PrintLast Go.Proofs.YtjleceekccehoaaGreatDoorW.PrintMore

def BegN (l : List UInt8) : Prop := l ≠ [] ∧ ∀ c, l[0]? = some c → (48 ≤ c.toNat ∧ c.toNat ≤ 57) ∨ c.toNat = 46
def VpE (l : List UInt8) (e : Ending) : Prop := if l.length ≤ 200 ∧ plainV l = true then ∃ b : Int, e = .returned (.tuple #[.int .u64 b, .nilIface]) else e = .returned (.tuple #[.int .u64 0, .iface 55 (.int .i64 13)])
theorem beg_ne {l : List UInt8} (hb : BegN l) (c : UInt8) (r : List UInt8) (hc : ¬ ((48 ≤ c.toNat ∧ c.toNat ≤ 57) ∨ c.toNat = 46)) : ((bs l).toList == c :: r) = false := by
 rw [Lib.toList_data, show (bs l).data.toList = l from by simp [bs], beq_eq_false_iff_ne]
 intro he
 exact hc (hb.2 c (by rw [he]; rfl))
set_option maxHeartbeats 1000000 in
set_option maxRecDepth 100000 in
theorem valParse_any (l : List UInt8) (hb : BegN l) (hl : l.length ≤ 1000000) (w : World) (hN : LaidN w) (hS : LaidS w) : Calls Tryz.prog 23 #[.string (bs l)] w fun e w' => VpE l e ∧ Below w.heap.size w w' := by
 have hsz := bs_size l
 have e1 := beg_ne hb 78 [97, 78] (by decide)
 have e2 := beg_ne hb 73 [110, 102] (by decide)
 have e3 := beg_ne hb 43 [73, 110, 102] (by decide)
 have e4 := beg_ne hb 45 [73, 110, 102] (by decide)
 have k1 := fbits_run
 have HN := Aside0.mk hN
 have HS := Aside0.mk hS
 have HB := Aside0.mk hb
 have HL := Aside0.mk hl
 clear hN hS hb hl
 by_cases h2 : l.length ≤ 200
 ·have t1 : ((l.length : Int) > 200) = False := eq_false (by omega)
  obtain ⟨b, hp⟩ : ∃ b, plainV l = b := ⟨_, rfl⟩
  have HP := Aside0.mk hp
  clear hp
  cases b
  ·have HV : Aside0 (VpE l (.returned (.tuple #[.int .u64 0, .iface 55 (.int .i64 13)]))) := ⟨by unfold VpE; rw [if_neg (by rw [HP.out]; simp)]⟩
   go_enter Tryz.func23, Tryz.ntmps23
   go_wp2_with fail
   refine (plain_any l HL.out _).mono ?_
   rw [HP.out]
   rintro e_ w1 ⟨rfl, hb1⟩
   have HB1 := Aside0.mk hb1
   clear hb1
   go_wp2_with fail
   go_ret2
   exact ⟨by first | exact HV.out | (simp; exact HV.out), HB1.out⟩
  ·have HV : Aside0 (∀ b : Int, VpE l (.returned (.tuple #[.int .u64 b, .nilIface]))) := ⟨fun b => by unfold VpE; rw [if_pos ⟨h2, HP.out⟩]; exact ⟨b, rfl⟩⟩
   have HT := Aside0.mk (plain_numT HP.out h2 HB.out.2)
   go_enter Tryz.func23, Tryz.ntmps23
   go_wp2_with fail
   refine (plain_any l HL.out _).mono ?_
   rw [HP.out]
   rintro e_ w1 ⟨rfl, hb1⟩
   have HB1 := Aside0.mk hb1
   clear hb1
   go_wp2_with fail
   refine (parseFloat_any l HT.out HB.out.1 _ (HN.out.below HB1.out) (HS.out.below HB1.out)).mono ?_
   rintro e_ w2 ⟨⟨x, v, rfl⟩, hb2⟩
   have HB2 := Aside0.mk (below_step HB1.out hb2)
   clear hb2
   go_wp2_with fail
   go_ret2
   exact ⟨by first | exact HV.out _ | (simp; exact HV.out _), HB2.out⟩
 ·have t1 : ((l.length : Int) > 200) := by omega
  have HV : Aside0 (VpE l (.returned (.tuple #[.int .u64 0, .iface 55 (.int .i64 13)]))) := ⟨by unfold VpE; rw [if_neg (fun h => h2 h.1)]⟩
  go_enter Tryz.func23, Tryz.ntmps23
  go_wp2_with fail
  go_ret2
  exact ⟨by first | exact HV.out | (simp; exact HV.out), by repeat (first | (with_reducible exact Below.refl _ _) | apply pw_below_drewN | apply below_drew1 | exact Below.refl _ _)⟩
end Go.Proofs.YtjleceekccehoaaGreatDoor.Pr
end

section
set_option linter.unusedVariables false
set_option linter.unusedSimpArgs false
namespace Go.Proofs.YtjleceekccehoaaGreatDoor.Pr
open Go.RowKit Go.Proofs.YtjleceekccehoaaGreatDoorW.PrintWords Go.Proofs.YtjleceekccehoaaGreatDoorW.PrintLast Go.Proofs.YtjleceekccehoaaGreatDoorW.PrintMore

def longOf (k : Nat) : Int := [31536000000, 604800000, 86400000, 3600000, 60000, 1000, 1].getD k 1
def MaxSpan : Int := 35184372088832
def parseR : Nat → List UInt8 → Int → Int → Option Int
 | 0, _, _, _ => none
 | f + 1, l, sum, next => if l = [] then some sum else
   if (numS MaxSpan l).2.2 = false ∨ (namedS (numS MaxSpan l).2.1).1 < next ∨ (numS MaxSpan l).1 > (MaxSpan - sum).tdiv (longOf (namedS (numS MaxSpan l).2.1).1.toNat) then none
   else parseR f (namedS (numS MaxSpan l).2.1).2 (sum + (numS MaxSpan l).1 * longOf (namedS (numS MaxSpan l).2.1).1.toNat) ((namedS (numS MaxSpan l).2.1).1 + 1)
def parseS (l : List UInt8) : Option Int := if l = [] ∨ l.length > 200 then none else parseR (l.length + 1) l 0 0
def errV : Option Int → Value
 | none => .iface 55 (.int .i64 13)
 | some _ => .nilIface

theorem numR_len (most : Int) : ∀ (l : List UInt8) (n m : Int) (r : List UInt8), numR most l n = some (m, r) → 0 ≤ n → 0 ≤ m ∧ r.length ≤ l.length
 | [], n, m, r, h, hn => by
  simp only [numR, Option.some.injEq, Prod.mk.injEq] at h
  obtain ⟨rfl, rfl⟩ := h
  exact ⟨hn, Nat.le_refl _⟩
 | c :: l, n, m, r, h, hn => by
  unfold numR at h
  split at h
  ·simp only [Option.some.injEq, Prod.mk.injEq] at h
   obtain ⟨rfl, rfl⟩ := h
   exact ⟨hn, Nat.le_refl _⟩
  ·split at h
   ·cases h
   ·have := numR_len most l _ m r h (by omega)
    exact ⟨this.1, Nat.le_succ_of_le this.2⟩
theorem numS_len (most : Int) (l : List UInt8) : (numS most l).2.1.length ≤ l.length := by
 unfold numS
 cases h : numR most l 0 with
 | none => simp
 | some x => obtain ⟨m, r⟩ := x; exact (numR_len most l 0 m r h (Int.le_refl _)).2
theorem numS_ok (most : Int) (l : List UInt8) (h : (numS most l).2.2 = true) : (numS most l).2.1.length < l.length ∧ 0 ≤ (numS most l).1 ∧ (numS most l).1 ≤ most := by
 unfold numS at h ⊢
 cases hr : numR most l 0 with
 | none => rw [hr] at h; cases h
 | some x =>
  obtain ⟨m, r⟩ := x
  rw [hr] at h
  simp only [Bool.and_eq_true, decide_eq_true_eq] at h
  exact ⟨h.1, (numR_len most l 0 m r hr (Int.le_refl _)).1, h.2⟩
theorem unitOf_cases (run : List UInt8) : unitOf run = -1 ∨ unitOf run = 0 ∨ unitOf run = 1 ∨ unitOf run = 2 ∨ unitOf run = 3 ∨ unitOf run = 4 ∨ unitOf run = 5 ∨ unitOf run = 6 := by
 unfold unitOf
 (repeat' split) <;> simp
theorem named_len (l : List UInt8) : (namedS l).2.length ≤ l.length := by
 unfold namedS
 dsimp only
 split
 ·simp
 ·exact (List.dropWhile_sublist _).length_le
def lenOf : Value → Nat
 | .string s => s.size
 | _ => 0

set_option maxHeartbeats 8000000 in
set_option maxRecDepth 100000 in
theorem parse_any (l : List UInt8) (hl : l.length ≤ 9223372036854775806) (w : World) (hU : LaidU w) :
  Calls Tryz.prog 74 #[.string (bs l)] w fun e w' => e = .returned (.tuple #[.int .i64 ((parseS l).getD 0), errV (parseS l)]) ∧ Below w.heap.size w w' := by
 have hsz := bs_size l
 have hbl : (bs l).toList = l := by rw [Lib.toList_data]; rfl
 have HU := Aside0.mk hU
 have hg : 3 < w.heap.size := World.block_lt_of_cell? w _ hU.1.1
 clear hU
 by_cases h0 : l = []
 ·subst h0
  have HP : Aside0 (parseS [] = none) := ⟨by unfold parseS; rw [if_pos (.inl rfl)]⟩
  go_enter Tryz.func74, Tryz.ntmps74
  go_wp2
  go_ret2
  exact ⟨by rw [HP.out]; rfl, Below.refl _ _⟩
 have h0e : l.isEmpty = false := by cases l with | nil => exact absurd rfl h0 | cons _ _ => rfl
 by_cases h2 : (200 : Int) < (l.length : Int)
 ·have HP : Aside0 (parseS l = none) := ⟨by unfold parseS; rw [if_pos (.inr (by omega))]⟩
  go_enter Tryz.func74, Tryz.ntmps74
  go_wp2
  go_ret2
  exact ⟨by rw [HP.out]; rfl, Below.refl _ _⟩
 obtain ⟨R, hR⟩ : ∃ R, R = parseR (l.length + 1) l 0 0 := ⟨_, rfl⟩
 have HP : Aside0 (parseS l = R) := ⟨by unfold parseS; rw [if_neg (by rintro (h | h); exact h0 h; omega), hR]⟩
 have HRR := Aside0.mk hR
 clear hR
 go_enter Tryz.func74, Tryz.ntmps74
 go_wp2
 go_loopw [0, 4, 5] (fun v0 v4 v5 w' => ∃ (l' : List UInt8) (sum next : Int) (f : Nat), v0 = .string (bs l') ∧ v4 = .int .i64 sum ∧ v5 = .int .i64 next ∧ l'.length < f ∧ l'.length ≤ l.length ∧ 0 ≤ sum ∧ sum ≤ 35184372088832 ∧ 0 ≤ next ∧ next ≤ 7 ∧ Aside0 (parseR f l' sum next = R) ∧ Aside0 (Below w.heap.size w w')) (fun v0 _ _ _ => lenOf v0)
 case atStart => exact ⟨l, 0, 0, l.length + 1, rfl, rfl, rfl, by omega, by omega, by omega, by omega, by omega, by omega, ⟨HRR.out.symm⟩, ⟨Below.refl _ _⟩⟩
 case round =>
  obtain ⟨l', sum, next, f, rfl, rfl, rfl, hf, hll, hs0, hs1, hn0, hn1, HR, HB⟩ := hrel
  obtain ⟨f, rfl⟩ : ∃ g, f = g + 1 := ⟨f - 1, by omega⟩
  have hbl' : (bs l').toList = l' := by rw [Lib.toList_data]; rfl
  by_cases he : l' = []
  ·subst he
   have HP2 : Aside0 (parseS l = some sum) := ⟨by rw [HP.out, ← HR.out]; simp [parseR]⟩
   clear HR HP
   go_wp2
   go_ret2
   exact ⟨by rw [HP2.out]; rfl, HB.out⟩
  have hee : l'.isEmpty = false := by cases l' with | nil => exact absurd rfl he | cons _ _ => rfl
  have hr := HR.out
  unfold parseR at hr
  rw [if_neg he] at hr
  have HOK := Aside0.mk (numS_ok MaxSpan l')
  have HLEN := Aside0.mk (numS_len MaxSpan l')
  have HLEN2 := Aside0.mk (named_len (numS MaxSpan l').2.1)
  have HN : Aside0 (∀ w, Calls Tryz.prog 111 #[.string (bs l'), .int .i64 35184372088832] w fun e w' => e = .returned (.tuple #[.int .i64 (numS MaxSpan l').1, .string (bs (numS MaxSpan l').2.1), .bool (numS MaxSpan l').2.2]) ∧ Drawn0 w w') := ⟨fun w => number_any l' 35184372088832 (by omega) (by omega) (by omega) w⟩
  have HM : Aside0 (∀ w, LaidU w → Calls Tryz.prog 112 #[.string (bs (numS MaxSpan l').2.1)] w fun e w' => e = .returned (.tuple #[.int .i64 (namedS (numS MaxSpan l').2.1).1, .string (bs (namedS (numS MaxSpan l').2.1).2)]) ∧ Below w.heap.size w w') := ⟨fun w hu => named_any _ (by have := numS_len MaxSpan l'; omega) w hu⟩
  have HK := Aside0.mk (unitOf_cases ((numS MaxSpan l').2.1.takeWhile (uset.contains ·)))
  have HK2 : Aside0 ((namedS (numS MaxSpan l').2.1).1 = unitOf ((numS MaxSpan l').2.1.takeWhile (uset.contains ·))) := ⟨rfl⟩
  generalize unitOf ((numS MaxSpan l').2.1.takeWhile (uset.contains ·)) = k0 at HK HK2
  generalize namedS (numS MaxSpan l').2.1 = nm at *
  obtain ⟨k, behind⟩ := nm
  generalize numS MaxSpan l' = ns at *
  obtain ⟨n, rest, ok⟩ := ns
  dsimp only at *
  obtain rfl := HK2.out
  have hk := HK.out
  clear HK HK2 HR
  cases ok with
  | false =>
   have HP2 : Aside0 (parseS l = none) := ⟨by rw [HP.out, ← hr]; simp⟩
   clear hr HP hk
   go_wp2_with (first | (go_at_call 111; refine (HN.out _).mono ?_; rintro e w1 ⟨rfl, hd⟩; have HB1 := Aside0.mk (below_step HB.out hd.below); clear hd) | (go_at_call 112; refine (HM.out _ (HU.out.below HB1.out)).mono ?_; rintro e w2 ⟨rfl, hb⟩; have HB2 := Aside0.mk (below_step HB1.out hb); clear hb; obtain ⟨⟨a0, a1⟩, ⟨a2, a3⟩, ⟨a4, a5⟩, ⟨a6, a7⟩, ⟨a8, a9⟩, ⟨b0, b1⟩, b2, b3⟩ := HU.out.below HB2.out))
   go_ret2
   exact ⟨by rw [HP2.out]; rfl, HB2.out⟩
  | true =>
   obtain ⟨ho1, ho2, ho3⟩ := HOK.out rfl
   have hl2 := HLEN2.out
   unfold MaxSpan at ho3 hr
   have z1 : IntKind.i64.wrap (35184372088832 - sum) = 35184372088832 - sum := IntWalk.i64_in _ (by omega)
   clear HOK HLEN HLEN2
   by_cases hlt : k < next
   ·have HP2 : Aside0 (parseS l = none) := ⟨by rw [HP.out, ← hr, if_pos (.inr (.inl hlt))]⟩
    clear hr HP hk
    go_wp2_with (first | (go_at_call 111; refine (HN.out _).mono ?_; rintro e w1 ⟨rfl, hd⟩; have HB1 := Aside0.mk (below_step HB.out hd.below); clear hd) | (go_at_call 112; refine (HM.out _ (HU.out.below HB1.out)).mono ?_; rintro e w2 ⟨rfl, hb⟩; have HB2 := Aside0.mk (below_step HB1.out hb); clear hb; obtain ⟨⟨a0, a1⟩, ⟨a2, a3⟩, ⟨a4, a5⟩, ⟨a6, a7⟩, ⟨a8, a9⟩, ⟨b0, b1⟩, b2, b3⟩ := HU.out.below HB2.out))
    go_ret2
    exact ⟨by rw [HP2.out]; rfl, HB2.out⟩
   have hk0 : k ≠ -1 := by omega
   rcases hk with hk | hk | hk | hk | hk | hk | hk | hk
   ·exact absurd hk hk0
   ·subst hk
    have hnx : next ≤ 0 := by omega
    have e1 : longOf (0 : Int).toNat = 31536000000 := rfl
    rw [e1] at hr
    obtain ⟨q, hq⟩ : ∃ q, (35184372088832 - sum).tdiv 31536000000 = q := ⟨_, rfl⟩
    have hq2 : (35184372088832 - sum) / 31536000000 = q := by rw [← hq, Int.tdiv_eq_ediv_of_nonneg (by omega)]
    have z2 : IntKind.i64.wrap q = q := IntWalk.i64_in _ (by omega)
    rw [hq] at hr
    have HQ2 := Aside0.mk hq2
    clear hq2
    by_cases hbig : n > q
    ·have HP2 : Aside0 (parseS l = none) := ⟨by rw [HP.out, ← hr, if_pos (.inr (.inr hbig))]⟩
     clear hr HP
     go_wp2_with (first | (go_at_call 111; refine (HN.out _).mono ?_; rintro e w1 ⟨rfl, hd⟩; have HB1 := Aside0.mk (below_step HB.out hd.below); clear hd) | (go_at_call 112; refine (HM.out _ (HU.out.below HB1.out)).mono ?_; rintro e w2 ⟨rfl, hb⟩; have HB2 := Aside0.mk (below_step HB1.out hb); clear hb; obtain ⟨⟨a0, a1⟩, ⟨a2, a3⟩, ⟨a4, a5⟩, ⟨a6, a7⟩, ⟨a8, a9⟩, ⟨b0, b1⟩, b2, b3⟩ := HU.out.below HB2.out))
     go_ret2
     exact ⟨by rw [HP2.out]; rfl, HB2.out⟩
    ·rw [if_neg (by rintro (h | h | h); exact absurd h (by simp); exact hlt h; exact hbig h)] at hr
     have HR2 := Aside0.mk hr
     clear hr
     have hb3 : n * 31536000000 ≤ 35184372088832 - sum := by have := HQ2.out; omega
     have z3 : IntKind.i64.wrap (n * 31536000000) = n * 31536000000 := IntWalk.i64_in _ (by omega)
     have z4 : IntKind.i64.wrap (sum + n * 31536000000) = sum + n * 31536000000 := IntWalk.i64_in _ (by omega)
     have hb4 : 0 ≤ n * 31536000000 := by omega
     go_wp2_with (first | (go_at_call 111; refine (HN.out _).mono ?_; rintro e w1 ⟨rfl, hd⟩; have HB1 := Aside0.mk (below_step HB.out hd.below); clear hd) | (go_at_call 112; refine (HM.out _ (HU.out.below HB1.out)).mono ?_; rintro e w2 ⟨rfl, hb⟩; have HB2 := Aside0.mk (below_step HB1.out hb); clear hb; obtain ⟨⟨a0, a1⟩, ⟨a2, a3⟩, ⟨a4, a5⟩, ⟨a6, a7⟩, ⟨a8, a9⟩, ⟨b0, b1⟩, b2, b3⟩ := HU.out.below HB2.out))
     go_roundw
     case rel => exact ⟨behind, sum + n * 31536000000, 1, f, rfl, by go_num, by go_num, by omega, by omega, by omega, by omega, by omega, by omega, HR2, HB2⟩
     case measure => show (bs behind).size < (bs l').size; rw [bs_size, bs_size]; omega
   ·subst hk
    have hnx : next ≤ 1 := by omega
    have e1 : longOf (1 : Int).toNat = 604800000 := rfl
    rw [e1] at hr
    obtain ⟨q, hq⟩ : ∃ q, (35184372088832 - sum).tdiv 604800000 = q := ⟨_, rfl⟩
    have hq2 : (35184372088832 - sum) / 604800000 = q := by rw [← hq, Int.tdiv_eq_ediv_of_nonneg (by omega)]
    have z2 : IntKind.i64.wrap q = q := IntWalk.i64_in _ (by omega)
    rw [hq] at hr
    have HQ2 := Aside0.mk hq2
    clear hq2
    by_cases hbig : n > q
    ·have HP2 : Aside0 (parseS l = none) := ⟨by rw [HP.out, ← hr, if_pos (.inr (.inr hbig))]⟩
     clear hr HP
     go_wp2_with (first | (go_at_call 111; refine (HN.out _).mono ?_; rintro e w1 ⟨rfl, hd⟩; have HB1 := Aside0.mk (below_step HB.out hd.below); clear hd) | (go_at_call 112; refine (HM.out _ (HU.out.below HB1.out)).mono ?_; rintro e w2 ⟨rfl, hb⟩; have HB2 := Aside0.mk (below_step HB1.out hb); clear hb; obtain ⟨⟨a0, a1⟩, ⟨a2, a3⟩, ⟨a4, a5⟩, ⟨a6, a7⟩, ⟨a8, a9⟩, ⟨b0, b1⟩, b2, b3⟩ := HU.out.below HB2.out))
     go_ret2
     exact ⟨by rw [HP2.out]; rfl, HB2.out⟩
    ·rw [if_neg (by rintro (h | h | h); exact absurd h (by simp); exact hlt h; exact hbig h)] at hr
     have HR2 := Aside0.mk hr
     clear hr
     have hb3 : n * 604800000 ≤ 35184372088832 - sum := by have := HQ2.out; omega
     have z3 : IntKind.i64.wrap (n * 604800000) = n * 604800000 := IntWalk.i64_in _ (by omega)
     have z4 : IntKind.i64.wrap (sum + n * 604800000) = sum + n * 604800000 := IntWalk.i64_in _ (by omega)
     have hb4 : 0 ≤ n * 604800000 := by omega
     go_wp2_with (first | (go_at_call 111; refine (HN.out _).mono ?_; rintro e w1 ⟨rfl, hd⟩; have HB1 := Aside0.mk (below_step HB.out hd.below); clear hd) | (go_at_call 112; refine (HM.out _ (HU.out.below HB1.out)).mono ?_; rintro e w2 ⟨rfl, hb⟩; have HB2 := Aside0.mk (below_step HB1.out hb); clear hb; obtain ⟨⟨a0, a1⟩, ⟨a2, a3⟩, ⟨a4, a5⟩, ⟨a6, a7⟩, ⟨a8, a9⟩, ⟨b0, b1⟩, b2, b3⟩ := HU.out.below HB2.out))
     go_roundw
     case rel => exact ⟨behind, sum + n * 604800000, 2, f, rfl, by go_num, by go_num, by omega, by omega, by omega, by omega, by omega, by omega, HR2, HB2⟩
     case measure => show (bs behind).size < (bs l').size; rw [bs_size, bs_size]; omega
   ·subst hk
    have hnx : next ≤ 2 := by omega
    have e1 : longOf (2 : Int).toNat = 86400000 := rfl
    rw [e1] at hr
    obtain ⟨q, hq⟩ : ∃ q, (35184372088832 - sum).tdiv 86400000 = q := ⟨_, rfl⟩
    have hq2 : (35184372088832 - sum) / 86400000 = q := by rw [← hq, Int.tdiv_eq_ediv_of_nonneg (by omega)]
    have z2 : IntKind.i64.wrap q = q := IntWalk.i64_in _ (by omega)
    rw [hq] at hr
    have HQ2 := Aside0.mk hq2
    clear hq2
    by_cases hbig : n > q
    ·have HP2 : Aside0 (parseS l = none) := ⟨by rw [HP.out, ← hr, if_pos (.inr (.inr hbig))]⟩
     clear hr HP
     go_wp2_with (first | (go_at_call 111; refine (HN.out _).mono ?_; rintro e w1 ⟨rfl, hd⟩; have HB1 := Aside0.mk (below_step HB.out hd.below); clear hd) | (go_at_call 112; refine (HM.out _ (HU.out.below HB1.out)).mono ?_; rintro e w2 ⟨rfl, hb⟩; have HB2 := Aside0.mk (below_step HB1.out hb); clear hb; obtain ⟨⟨a0, a1⟩, ⟨a2, a3⟩, ⟨a4, a5⟩, ⟨a6, a7⟩, ⟨a8, a9⟩, ⟨b0, b1⟩, b2, b3⟩ := HU.out.below HB2.out))
     go_ret2
     exact ⟨by rw [HP2.out]; rfl, HB2.out⟩
    ·rw [if_neg (by rintro (h | h | h); exact absurd h (by simp); exact hlt h; exact hbig h)] at hr
     have HR2 := Aside0.mk hr
     clear hr
     have hb3 : n * 86400000 ≤ 35184372088832 - sum := by have := HQ2.out; omega
     have z3 : IntKind.i64.wrap (n * 86400000) = n * 86400000 := IntWalk.i64_in _ (by omega)
     have z4 : IntKind.i64.wrap (sum + n * 86400000) = sum + n * 86400000 := IntWalk.i64_in _ (by omega)
     have hb4 : 0 ≤ n * 86400000 := by omega
     go_wp2_with (first | (go_at_call 111; refine (HN.out _).mono ?_; rintro e w1 ⟨rfl, hd⟩; have HB1 := Aside0.mk (below_step HB.out hd.below); clear hd) | (go_at_call 112; refine (HM.out _ (HU.out.below HB1.out)).mono ?_; rintro e w2 ⟨rfl, hb⟩; have HB2 := Aside0.mk (below_step HB1.out hb); clear hb; obtain ⟨⟨a0, a1⟩, ⟨a2, a3⟩, ⟨a4, a5⟩, ⟨a6, a7⟩, ⟨a8, a9⟩, ⟨b0, b1⟩, b2, b3⟩ := HU.out.below HB2.out))
     go_roundw
     case rel => exact ⟨behind, sum + n * 86400000, 3, f, rfl, by go_num, by go_num, by omega, by omega, by omega, by omega, by omega, by omega, HR2, HB2⟩
     case measure => show (bs behind).size < (bs l').size; rw [bs_size, bs_size]; omega
   ·subst hk
    have hnx : next ≤ 3 := by omega
    have e1 : longOf (3 : Int).toNat = 3600000 := rfl
    rw [e1] at hr
    obtain ⟨q, hq⟩ : ∃ q, (35184372088832 - sum).tdiv 3600000 = q := ⟨_, rfl⟩
    have hq2 : (35184372088832 - sum) / 3600000 = q := by rw [← hq, Int.tdiv_eq_ediv_of_nonneg (by omega)]
    have z2 : IntKind.i64.wrap q = q := IntWalk.i64_in _ (by omega)
    rw [hq] at hr
    have HQ2 := Aside0.mk hq2
    clear hq2
    by_cases hbig : n > q
    ·have HP2 : Aside0 (parseS l = none) := ⟨by rw [HP.out, ← hr, if_pos (.inr (.inr hbig))]⟩
     clear hr HP
     go_wp2_with (first | (go_at_call 111; refine (HN.out _).mono ?_; rintro e w1 ⟨rfl, hd⟩; have HB1 := Aside0.mk (below_step HB.out hd.below); clear hd) | (go_at_call 112; refine (HM.out _ (HU.out.below HB1.out)).mono ?_; rintro e w2 ⟨rfl, hb⟩; have HB2 := Aside0.mk (below_step HB1.out hb); clear hb; obtain ⟨⟨a0, a1⟩, ⟨a2, a3⟩, ⟨a4, a5⟩, ⟨a6, a7⟩, ⟨a8, a9⟩, ⟨b0, b1⟩, b2, b3⟩ := HU.out.below HB2.out))
     go_ret2
     exact ⟨by rw [HP2.out]; rfl, HB2.out⟩
    ·rw [if_neg (by rintro (h | h | h); exact absurd h (by simp); exact hlt h; exact hbig h)] at hr
     have HR2 := Aside0.mk hr
     clear hr
     have hb3 : n * 3600000 ≤ 35184372088832 - sum := by have := HQ2.out; omega
     have z3 : IntKind.i64.wrap (n * 3600000) = n * 3600000 := IntWalk.i64_in _ (by omega)
     have z4 : IntKind.i64.wrap (sum + n * 3600000) = sum + n * 3600000 := IntWalk.i64_in _ (by omega)
     have hb4 : 0 ≤ n * 3600000 := by omega
     go_wp2_with (first | (go_at_call 111; refine (HN.out _).mono ?_; rintro e w1 ⟨rfl, hd⟩; have HB1 := Aside0.mk (below_step HB.out hd.below); clear hd) | (go_at_call 112; refine (HM.out _ (HU.out.below HB1.out)).mono ?_; rintro e w2 ⟨rfl, hb⟩; have HB2 := Aside0.mk (below_step HB1.out hb); clear hb; obtain ⟨⟨a0, a1⟩, ⟨a2, a3⟩, ⟨a4, a5⟩, ⟨a6, a7⟩, ⟨a8, a9⟩, ⟨b0, b1⟩, b2, b3⟩ := HU.out.below HB2.out))
     go_roundw
     case rel => exact ⟨behind, sum + n * 3600000, 4, f, rfl, by go_num, by go_num, by omega, by omega, by omega, by omega, by omega, by omega, HR2, HB2⟩
     case measure => show (bs behind).size < (bs l').size; rw [bs_size, bs_size]; omega
   ·subst hk
    have hnx : next ≤ 4 := by omega
    have e1 : longOf (4 : Int).toNat = 60000 := rfl
    rw [e1] at hr
    obtain ⟨q, hq⟩ : ∃ q, (35184372088832 - sum).tdiv 60000 = q := ⟨_, rfl⟩
    have hq2 : (35184372088832 - sum) / 60000 = q := by rw [← hq, Int.tdiv_eq_ediv_of_nonneg (by omega)]
    have z2 : IntKind.i64.wrap q = q := IntWalk.i64_in _ (by omega)
    rw [hq] at hr
    have HQ2 := Aside0.mk hq2
    clear hq2
    by_cases hbig : n > q
    ·have HP2 : Aside0 (parseS l = none) := ⟨by rw [HP.out, ← hr, if_pos (.inr (.inr hbig))]⟩
     clear hr HP
     go_wp2_with (first | (go_at_call 111; refine (HN.out _).mono ?_; rintro e w1 ⟨rfl, hd⟩; have HB1 := Aside0.mk (below_step HB.out hd.below); clear hd) | (go_at_call 112; refine (HM.out _ (HU.out.below HB1.out)).mono ?_; rintro e w2 ⟨rfl, hb⟩; have HB2 := Aside0.mk (below_step HB1.out hb); clear hb; obtain ⟨⟨a0, a1⟩, ⟨a2, a3⟩, ⟨a4, a5⟩, ⟨a6, a7⟩, ⟨a8, a9⟩, ⟨b0, b1⟩, b2, b3⟩ := HU.out.below HB2.out))
     go_ret2
     exact ⟨by rw [HP2.out]; rfl, HB2.out⟩
    ·rw [if_neg (by rintro (h | h | h); exact absurd h (by simp); exact hlt h; exact hbig h)] at hr
     have HR2 := Aside0.mk hr
     clear hr
     have hb3 : n * 60000 ≤ 35184372088832 - sum := by have := HQ2.out; omega
     have z3 : IntKind.i64.wrap (n * 60000) = n * 60000 := IntWalk.i64_in _ (by omega)
     have z4 : IntKind.i64.wrap (sum + n * 60000) = sum + n * 60000 := IntWalk.i64_in _ (by omega)
     have hb4 : 0 ≤ n * 60000 := by omega
     go_wp2_with (first | (go_at_call 111; refine (HN.out _).mono ?_; rintro e w1 ⟨rfl, hd⟩; have HB1 := Aside0.mk (below_step HB.out hd.below); clear hd) | (go_at_call 112; refine (HM.out _ (HU.out.below HB1.out)).mono ?_; rintro e w2 ⟨rfl, hb⟩; have HB2 := Aside0.mk (below_step HB1.out hb); clear hb; obtain ⟨⟨a0, a1⟩, ⟨a2, a3⟩, ⟨a4, a5⟩, ⟨a6, a7⟩, ⟨a8, a9⟩, ⟨b0, b1⟩, b2, b3⟩ := HU.out.below HB2.out))
     go_roundw
     case rel => exact ⟨behind, sum + n * 60000, 5, f, rfl, by go_num, by go_num, by omega, by omega, by omega, by omega, by omega, by omega, HR2, HB2⟩
     case measure => show (bs behind).size < (bs l').size; rw [bs_size, bs_size]; omega
   ·subst hk
    have hnx : next ≤ 5 := by omega
    have e1 : longOf (5 : Int).toNat = 1000 := rfl
    rw [e1] at hr
    obtain ⟨q, hq⟩ : ∃ q, (35184372088832 - sum).tdiv 1000 = q := ⟨_, rfl⟩
    have hq2 : (35184372088832 - sum) / 1000 = q := by rw [← hq, Int.tdiv_eq_ediv_of_nonneg (by omega)]
    have z2 : IntKind.i64.wrap q = q := IntWalk.i64_in _ (by omega)
    rw [hq] at hr
    have HQ2 := Aside0.mk hq2
    clear hq2
    by_cases hbig : n > q
    ·have HP2 : Aside0 (parseS l = none) := ⟨by rw [HP.out, ← hr, if_pos (.inr (.inr hbig))]⟩
     clear hr HP
     go_wp2_with (first | (go_at_call 111; refine (HN.out _).mono ?_; rintro e w1 ⟨rfl, hd⟩; have HB1 := Aside0.mk (below_step HB.out hd.below); clear hd) | (go_at_call 112; refine (HM.out _ (HU.out.below HB1.out)).mono ?_; rintro e w2 ⟨rfl, hb⟩; have HB2 := Aside0.mk (below_step HB1.out hb); clear hb; obtain ⟨⟨a0, a1⟩, ⟨a2, a3⟩, ⟨a4, a5⟩, ⟨a6, a7⟩, ⟨a8, a9⟩, ⟨b0, b1⟩, b2, b3⟩ := HU.out.below HB2.out))
     go_ret2
     exact ⟨by rw [HP2.out]; rfl, HB2.out⟩
    ·rw [if_neg (by rintro (h | h | h); exact absurd h (by simp); exact hlt h; exact hbig h)] at hr
     have HR2 := Aside0.mk hr
     clear hr
     have hb3 : n * 1000 ≤ 35184372088832 - sum := by have := HQ2.out; omega
     have z3 : IntKind.i64.wrap (n * 1000) = n * 1000 := IntWalk.i64_in _ (by omega)
     have z4 : IntKind.i64.wrap (sum + n * 1000) = sum + n * 1000 := IntWalk.i64_in _ (by omega)
     have hb4 : 0 ≤ n * 1000 := by omega
     go_wp2_with (first | (go_at_call 111; refine (HN.out _).mono ?_; rintro e w1 ⟨rfl, hd⟩; have HB1 := Aside0.mk (below_step HB.out hd.below); clear hd) | (go_at_call 112; refine (HM.out _ (HU.out.below HB1.out)).mono ?_; rintro e w2 ⟨rfl, hb⟩; have HB2 := Aside0.mk (below_step HB1.out hb); clear hb; obtain ⟨⟨a0, a1⟩, ⟨a2, a3⟩, ⟨a4, a5⟩, ⟨a6, a7⟩, ⟨a8, a9⟩, ⟨b0, b1⟩, b2, b3⟩ := HU.out.below HB2.out))
     go_roundw
     case rel => exact ⟨behind, sum + n * 1000, 6, f, rfl, by go_num, by go_num, by omega, by omega, by omega, by omega, by omega, by omega, HR2, HB2⟩
     case measure => show (bs behind).size < (bs l').size; rw [bs_size, bs_size]; omega
   ·subst hk
    have hnx : next ≤ 6 := by omega
    have e1 : longOf (6 : Int).toNat = 1 := rfl
    rw [e1] at hr
    rw [Int.tdiv_one] at hr
    by_cases hbig : n > 35184372088832 - sum
    ·have HP2 : Aside0 (parseS l = none) := ⟨by rw [HP.out, ← hr, if_pos (.inr (.inr hbig))]⟩
     clear hr HP
     go_wp2_with (first | (go_at_call 111; refine (HN.out _).mono ?_; rintro e w1 ⟨rfl, hd⟩; have HB1 := Aside0.mk (below_step HB.out hd.below); clear hd) | (go_at_call 112; refine (HM.out _ (HU.out.below HB1.out)).mono ?_; rintro e w2 ⟨rfl, hb⟩; have HB2 := Aside0.mk (below_step HB1.out hb); clear hb; obtain ⟨⟨a0, a1⟩, ⟨a2, a3⟩, ⟨a4, a5⟩, ⟨a6, a7⟩, ⟨a8, a9⟩, ⟨b0, b1⟩, b2, b3⟩ := HU.out.below HB2.out))
     go_ret2
     exact ⟨by rw [HP2.out]; rfl, HB2.out⟩
    ·rw [if_neg (by rintro (h | h | h); exact absurd h (by simp); exact hlt h; exact hbig h)] at hr
     have HR2 := Aside0.mk hr
     clear hr
     have z3 : IntKind.i64.wrap n = n := IntWalk.i64_in _ (by omega)
     have z4 : IntKind.i64.wrap (sum + n) = sum + n := IntWalk.i64_in _ (by omega)
     go_wp2_with (first | (go_at_call 111; refine (HN.out _).mono ?_; rintro e w1 ⟨rfl, hd⟩; have HB1 := Aside0.mk (below_step HB.out hd.below); clear hd) | (go_at_call 112; refine (HM.out _ (HU.out.below HB1.out)).mono ?_; rintro e w2 ⟨rfl, hb⟩; have HB2 := Aside0.mk (below_step HB1.out hb); clear hb; obtain ⟨⟨a0, a1⟩, ⟨a2, a3⟩, ⟨a4, a5⟩, ⟨a6, a7⟩, ⟨a8, a9⟩, ⟨b0, b1⟩, b2, b3⟩ := HU.out.below HB2.out))
     go_roundw
     case rel => exact ⟨behind, sum + n, 7, f, rfl, by go_num, by go_num, by omega, by omega, by omega, by omega, by omega, by omega, ⟨by simpa using HR2.out⟩, HB2⟩
     case measure => show (bs behind).size < (bs l').size; rw [bs_size, bs_size]; omega
end Go.Proofs.YtjleceekccehoaaGreatDoor.Pr
end
