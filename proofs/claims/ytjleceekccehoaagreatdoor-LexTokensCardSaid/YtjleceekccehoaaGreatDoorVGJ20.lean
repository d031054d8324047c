/- Texts of this session, cut down to what one claim needs and joined: LexG, LexTok, LexL0, LexL. -/
import Derived.Test.YtjleceekccehoaaGreatDoorVGJ17
import Derived.Test.YtjleceekccehoaaGreatDoorVShelf3
import Derived.Test.YtjleceekccehoaaGreatDoorVLexNum
import Derived.Test.YtjleceekccehoaaGreatDoorVGJ19
import Derived.RegionTactic
section
set_option linter.unusedVariables false
set_option linter.unusedSimpArgs false
namespace Go.Proofs.YtjleceekccehoaaGreatDoor.Pr
open Go.RowKit Go.Proofs.YtjleceekccehoaaGreatDoorW.PrintWords Go.Proofs.YtjleceekccehoaaGreatDoorW.PrintLast Go.Proofs.YtjleceekccehoaaGreatDoorW.PrintMore

def signsT : List UInt8 := [61, 61, 32, 33, 61, 32, 61, 126, 32, 33, 126, 32, 62, 61, 32, 60, 61, 32, 61, 32, 62, 32, 60, 32, 43, 32, 45, 32, 42, 32, 47, 32, 37, 32, 64, 32, 40, 32, 41, 32, 123, 32, 125, 32, 91, 32, 93, 32, 44]
def signs : List (List UInt8) := [[61, 61], [33, 61], [61, 126], [33, 126], [62, 61], [60, 61], [61], [62], [60], [43], [45], [42], [47], [37], [64], [40], [41], [123], [125], [91], [93], [44]]
theorem signs_len : signs.length = 22 := rfl
theorem fields_signs : Lib.fields signsT = signs := by decide +kernel
theorem signs_ascii : ∀ (j : Nat) b, signsT[j]? = some b → b.toNat < 128 := fun j b h => by
 have h1 : ∀ b ∈ signsT, b.toNat < 128 := by decide
 exact h1 b (List.mem_of_getElem? h)
def signV (s : List UInt8) : Tk := match signs.find? (fun p => Lib.hasPrefix s p) with | some p => some (5, p, p.length) | none => none
/-- The table of blank bytes. -/
def LaidB (w : World) : Prop := Lib.TabIs Tryz.prog w "strings.asciiSpace" .u8 Lib.asciiSpaceTab
theorem gSp : Tryz.prog.globalNamed "strings.asciiSpace" = some 6 := by kernel_rfl
theorem fields_any (w : World) (hB : LaidB w) : Calls Tryz.prog 76 #[.string (bs signsT)] w fun e w' => e = .returned (.slice (some ⟨w.heap.size, 0, none⟩) 22 22) ∧ w' = w.alloc (.cells (signs.map fun l => Value.string ⟨l.toArray⟩).toArray 9) := by
 have h := Any.strings_Fields Tryz.lays157 (by kernel_rfl) gSp (bs signsT) w (by decide) (by rw [show (bs signsT).data.toList = signsT from by simp [bs]]; exact signs_ascii) hB
 rw [show (bs signsT).data.toList = signsT from by simp [bs], fields_signs] at h
 exact h
theorem hasPrefix_any (s p : List UInt8) (w : World) : Calls Tryz.prog 77 #[.string (bs s), .string (bs p)] w fun e w' => e = .returned (.bool (Lib.hasPrefix s p)) ∧ w' = w := by
 have h := Any.strings_HasPrefix Tryz.lays99 (bs s) (bs p) w
 rw [show (bs s).data.toList = s from by simp [bs], show (bs p).data.toList = p from by simp [bs]] at h
 exact h
set_option maxHeartbeats 4000000 in
set_option maxRecDepth 100000 in
theorem sign_any8 (l : List UInt8) (hl : l.length ≤ 1000000) (i : Nat) (s : List UInt8) (hA : At l i s) (w : World) (hB : ∀ w', Below w.heap.size w w' → LaidB w') :
  Calls Tryz.prog 52 #[.agg #[.string (bs l), .int .i64 i]] w fun e w' => e = .returned (tkV (signV s)) ∧ Below w.heap.size w w' := by
 have hsz := bs_size l
 have hil := hA.le
 have HA := Aside0.mk hA
 have HL := Aside0.mk hl
 have t1 : (0 : Int) ≤ (i : Int) := by omega
 have t2 : (i : Int) ≤ (l.length : Int) := by omega
 have hx1 : (bs l).extract i l.length = bs s := by rw [bs_drop', hA.eq]
 have HB := Aside0.mk (RBox.new (w0 := w) w l i (Below.refl _ _))
 have HT := Aside0.mk (TkB.new w l i)
 have HFB := Aside0.mk hB
 have HF : Aside0 (∀ w, LaidB w → Calls Tryz.prog 76 #[.string ⟨#[61, 61, 32, 33, 61, 32, 61, 126, 32, 33, 126, 32, 62, 61, 32, 60, 61, 32, 61, 32, 62, 32, 60, 32, 43, 32, 45, 32, 42, 32, 47, 32, 37, 32, 64, 32, 40, 32, 41, 32, 123, 32, 125, 32, 91, 32, 93, 32, 44]⟩] w fun e w' => e = .returned (.slice (some ⟨w.heap.size, 0, none⟩) 22 22) ∧ w' = w.alloc (.cells (signs.map fun l => Value.string ⟨l.toArray⟩).toArray 9)) := ⟨fun w h => fields_any w h⟩
 clear hA hl hB
 go_enter Tryz.func52, Tryz.ntmps52
 go_wp2_with fail
 refine (HF.out _ (HFB.out _ HT.out.bel)).mono ?_
 rintro e_ w1 ⟨rfl, hw1⟩
 obtain ⟨g, hg⟩ : ∃ g, ((w.alloc (.cells #[.string (bs l), .int .i64 i] 57)).alloc (.cells #[.int .i64 0, .int .i64 0, .string ⟨#[]⟩] 41)).heap.size = g := ⟨_, rfl⟩
 have HB1 : Aside0 (RBox w w1 w.heap.size l i) := ⟨by rw [hw1]; exact (HB.out.below (below_alloc (Below.refl _ _) _)).below (below_alloc (Below.refl _ _) _)⟩
 have HT1 : Aside0 (TkB w w1 (w.heap.size + 1)) := ⟨by rw [hw1]; exact HT.out.below (below_alloc (Below.refl _ _) _)⟩
 have HC : Aside0 (∀ (k : Nat) (p : List UInt8), signs[k]? = some p → w1.cell? ⟨g, k, none⟩ = some (.string (bs p))) := ⟨fun k p hk => by
  have h1 : w1.heap[g]? = some (.cells (signs.map fun l => Value.string ⟨l.toArray⟩).toArray 9 (0, 0)) := by rw [hw1, ← hg]; exact heap_alloc_new _ _
  rw [blk_cell h1 k]
  simp [hk, bs]⟩
 have y0 := HB1.out.c0
 have y1 := HB1.out.c1
 rw [hg]
 clear hw1 hg HB HT HF
 go_wp2_with fail
 go_loopg [8] 22 (fun gk v8 wx => wx = w1 ∧ ∃ k : Nat, v8 = .int .i64 (k : Int) ∧ k + gk = 22 ∧ Aside0 ((signs.drop k).find? (fun p => Lib.hasPrefix s p) = signs.find? (fun p => Lib.hasPrefix s p)))
 case atStart => exact ⟨rfl, 0, rfl, rfl, ⟨rfl⟩⟩
 case round =>
  obtain ⟨rfl, k, rfl, hk, HK⟩ := hrel
  by_cases h22 : k = 22
  ·subst h22
   have HV : Aside0 (signV s = none) := ⟨by unfold signV; rw [← HK.out]; rfl⟩
   have k0 := HT1.out.c0
   have k1 := HT1.out.c1
   have k2 := HT1.out.c2
   have f0 := HT1.out.f0 0
   have f1 := HT1.out.f0 1
   have f2 := HT1.out.f0 2
   go_wp2_with fail
   refine bodyPost_ret (results_list (rs := [.cell 2 41, .tmp 3]) rfl (by simp) (.cell (w.heap.size + 1) 41 _ (0, 0) _ rfl (HT1.out.set3 (.int .i64 0) (.int .i64 0) ⟨#[]⟩) rfl rfl rfl (.tmp .nil))) rfl ?_
   rw [HV.out]
   exact ⟨by first | rfl | simp [tkV, tok0], HT1.out.bel3 _ _ _⟩
  ·have hk2 : k < 22 := by omega
   obtain ⟨g', rfl⟩ : ∃ g', gk = g' + 1 := ⟨gk - 1, by omega⟩
   obtain ⟨p, hp⟩ : ∃ p, signs[k]? = some p := ⟨signs[k]'(by rw [signs_len]; exact hk2), by simp [signs_len, hk2]⟩
   have hd : signs.drop k = p :: signs.drop (k + 1) := by
    have hlt : k < signs.length := by rw [signs_len]; exact hk2
    rw [List.drop_eq_getElem_cons hlt]
    rw [List.getElem?_eq_getElem hlt] at hp
    rw [Option.some.inj hp]
   have hcell := HC.out k p hp
   have q1 : (0 : Int) ≤ (k : Int) := by omega
   have q2 : (k : Int) < 22 := by omega
   have HD := Aside0.mk hd
   have hps := bs_size p
   clear hp hd
   obtain ⟨b, hb⟩ : ∃ b, Lib.hasPrefix s p = b := ⟨_, rfl⟩
   have HBB := Aside0.mk hb
   clear hb
   cases b
   ·go_wp2_with (go_at_call 77; refine (hasPrefix_any s p _).mono ?_; rw [HBB.out]; rintro e_ w' ⟨rfl, rfl⟩)
    go_roundg g'
    case measure => omega
    case rel => exact ⟨rfl, k + 1, by go_num, by omega, ⟨by rw [← HK.out, HD.out, List.find?_cons_of_neg (by rw [HBB.out]; simp)]⟩⟩
   ·have HV : Aside0 (signV s = some (5, p, p.length)) := ⟨by unfold signV; rw [← HK.out, HD.out, List.find?_cons_of_pos (by rw [HBB.out])]⟩
    have k0 := HT1.out.c0
    have k1 := HT1.out.c1
    have k2 := HT1.out.c2
    have f0 := HT1.out.f0 0
    have f1 := HT1.out.f0 1
    have f2 := HT1.out.f0 2
    go_wp2_with (go_at_call 77; refine (hasPrefix_any s p _).mono ?_; rw [HBB.out]; rintro e_ w' ⟨rfl, rfl⟩)
    refine bodyPost_ret (results_list (rs := [.cell 2 41, .tmp 3]) rfl (by simp) (.cell (w.heap.size + 1) 41 _ (0, 0) _ rfl (HT1.out.set3 (.int .i64 5) (.int .i64 0) (bs p)) rfl rfl rfl (.tmp .nil))) rfl ?_
    rw [HV.out]
    exact ⟨by first | rfl | simp [tkV], HT1.out.bel3 _ _ _⟩
end Go.Proofs.YtjleceekccehoaaGreatDoor.Pr
end

section
set_option linter.unusedVariables false
set_option linter.unusedSimpArgs false
namespace Go.Proofs.YtjleceekccehoaaGreatDoor.Pr
open Go.RowKit Go.Proofs.YtjleceekccehoaaGreatDoorW.PrintWords Go.Proofs.YtjleceekccehoaaGreatDoorW.PrintLast Go.Proofs.YtjleceekccehoaaGreatDoorW.PrintMore

def wordT (s : List UInt8) : Tk := match s with | [] => none | c :: r => if isLet c.toNat = true then some (1, (c :: r).take (wordV (c :: r)), wordV (c :: r)) else none
theorem wordV_pos {c : UInt8} {r : List UInt8} (h : isLet c.toNat = true) : 0 < wordV (c :: r) := by
 show 0 < (if isLet c.toNat = true then run (fun z => isLet z || isDig z) (c :: r) else 0)
 rw [if_pos h, run, if_pos (by simp [h])]
 omega
theorem wordT_any (l : List UInt8) (hl : l.length ≤ 1000000) (i : Nat) (c : UInt8) (r : List UInt8) (hA : At l i (c :: r)) (w : World) :
  Calls Tryz.prog 49 #[.agg #[.string (bs l), .int .i64 i]] w fun e w' => e = .returned (tkV (wordT (c :: r))) ∧ Below w.heap.size w w' := by
 refine (word_any l hl i c r hA w).mono ?_
 rintro e w' ⟨he, hb⟩
 refine ⟨?_, hb⟩
 rw [he]
 show _ = Ending.returned (tkV (if isLet c.toNat = true then some (1, (c :: r).take (wordV (c :: r)), wordV (c :: r)) else none))
 by_cases h : isLet c.toNat = true
 ·rw [if_pos h, if_pos h]; rfl
 ·rw [if_neg h, if_neg h]
  have : wordV (c :: r) = 0 := if_neg h
  rw [this]; rfl
/-- The next token: the first kind that has one. -/
def tokAt (s : List UInt8) : Tk := match wordT s with | some x => some x | none => match numT s with | some x => some x | none => match quotV s with | some x => some x | none => signV s
def tkAtV (i : Nat) : Tk → Value
 | none => .tuple #[tok0, .int .i64 0]
 | some (k, t, n) => .tuple #[.agg #[.int .i64 k, .int .i64 i, .string (bs t)], .int .i64 n]
/-- Some token has a byte. -/
theorem word_pos {s t : List UInt8} {k n : Nat} (h : wordT s = some (k, t, n)) : 0 < n := by
 cases s with
 | nil => cases h
 | cons c r =>
  unfold wordT at h
  by_cases hl : isLet c.toNat = true
  ·simp only [if_pos hl, Option.some.injEq, Prod.mk.injEq] at h
   rw [← h.2.2]; exact wordV_pos hl
  ·simp only [if_neg hl] at h; cases h
theorem num_pos {s t : List UInt8} {k n : Nat} (h : numT s = some (k, t, n)) : 0 < n := by
 unfold numT at h
 by_cases h0 : isNum0 s = true
 ·rw [if_pos h0] at h
  split at h
  ·cases h
  ·simp only [Option.some.injEq, Prod.mk.injEq] at h
   rw [← h.2.2]
   cases s with
   | nil => cases h0
   | cons c r =>
    have hb : isDig c.toNat = true ∨ c.toNat = 46 := by
     have h1 : (isDig c.toNat || (c.toNat == 46 && _)) = true := h0
     rw [Bool.or_eq_true, Bool.and_eq_true] at h1
     rcases h1 with h2 | h2
     ·exact Or.inl h2
     ·exact Or.inr (by simpa using h2.1)
    rw [numTx_cons r hb]
    simp
 ·rw [if_neg h0] at h; cases h
theorem quotR_len : ∀ (n : Nat) (r out o2 r2 : List UInt8), r.length ≤ n → quotR r out = some (o2, r2) → r2.length < r.length := by
 intro n
 induction n with
 | zero => intro r out o2 r2 hn h; have : r = [] := List.length_eq_zero_iff.1 (by omega); subst this; cases h
 | succ n ih =>
  intro r out o2 r2 hn h
  cases r with
  | nil => cases h
  | cons c r =>
   rw [quotR_cons] at h
   simp only [List.length_cons] at hn ⊢
   split at h
   ·injection h with h; injection h with _ h; subst h; omega
   ·split at h
    ·cases h
    ·split at h
     ·cases r with
      | nil => cases h
      | cons d r3 =>
       simp only [List.length_cons] at hn ⊢
       simp only at h
       split at h
       ·have := ih r3 _ o2 r2 (by omega) h; omega
       ·split at h
        ·have := ih r3 _ o2 r2 (by omega) h; omega
        ·cases h
     ·have := ih r _ o2 r2 (by omega) h; omega
theorem quot_pos {s t : List UInt8} {k n : Nat} (h : quotV s = some (k, t, n)) : 0 < n := by
 cases s with
 | nil => cases h
 | cons c r =>
  unfold quotV at h
  simp only at h
  split at h
  ·cases hq : quotR r [] with
   | none => rw [hq] at h; cases h
   | some x =>
    obtain ⟨o2, r2⟩ := x
    rw [hq] at h
    have hl := quotR_len _ r [] o2 r2 (Nat.le_refl _) hq
    unfold quotT at h
    simp only at h
    split at h
    ·simp only [Option.some.injEq, Prod.mk.injEq, List.length_cons] at h
     omega
    ·cases h
  ·cases h
theorem sign_pos {s t : List UInt8} {k n : Nat} (h : signV s = some (k, t, n)) : 0 < n := by
 unfold signV at h
 cases hf : signs.find? (fun p => Lib.hasPrefix s p) with
 | none => rw [hf] at h; cases h
 | some p =>
  rw [hf] at h
  simp only [Option.some.injEq, Prod.mk.injEq] at h
  have hm := List.mem_of_find?_eq_some hf
  have hall : ∀ p ∈ signs, 0 < p.length := by decide
  rw [← h.2.2]
  exact hall p hm
theorem LaidB.below {w w' : World} (h : LaidB w) (hb : Below w.heap.size w w') : LaidB w' := by
 unfold LaidB Lib.TabIs World.var? at h ⊢
 rw [gSp] at h ⊢
 simp only [Option.bind_some] at h ⊢
 have hlt : 6 < w.heap.size := by
  rcases Nat.lt_or_ge 6 w.heap.size with h' | h'
  ·exact h'
  ·rw [Array.getElem?_eq_none h'] at h; cases h
 rw [hb.block _ hlt]
 exact h
/-- What token's callees ask of the package-level variables. -/
structure LaidT8 (w : World) : Prop where
 m : LaidM w
 v : LaidV8 w
 b : LaidB w
theorem LaidT8.below {w w' : World} (h : LaidT8 w) (hb : Below w.heap.size w w') : LaidT8 w' := ⟨h.m.below hb, h.v.below hb, h.b.below hb⟩
def fnsA : Array Value := #[.func (.func 49) #[] #[], .func (.func 50) #[] #[], .func (.func 51) #[] #[], .func (.func 52) #[] #[]]
/-- token's own blocks: its rest, its result, the kinds. -/
structure TokB (w0 w : World) (l : List UInt8) (i : Nat) : Prop where
 r : RBox w0 w w0.heap.size l i
 t : TkB w0 w (w0.heap.size + 1)
 f : w.heap[w0.heap.size + 1 + 1]? = some (.cells fnsA 75 (0, 0))
theorem TokB.below {w0 w w' : World} {l : List UInt8} {i : Nat} (h : TokB w0 w l i) (hb : Below w.heap.size w w') : TokB w0 w' l i := ⟨h.r.below hb, h.t.below hb, (hb.block _ (heap_lt h.f)).trans h.f⟩
theorem TokB.new (w : World) (l : List UInt8) (i : Nat) : TokB w (((w.alloc (.cells #[.string (bs l), .int .i64 i] 57)).alloc (.cells #[.int .i64 0, .int .i64 0, .string ⟨#[]⟩] 41)).alloc (.cells fnsA 75)) l i := by
 have h1 := TkB.new w l i
 have h2 := (RBox.new (w0 := w) w l i (Below.refl _ _)).below (below_alloc (Below.refl _ _) (.cells #[.int .i64 0, .int .i64 0, .string ⟨#[]⟩] 41))
 refine ⟨h2.below (below_alloc (Below.refl _ _) _), h1.below (below_alloc (Below.refl _ _) _), ?_⟩
 have h := heap_alloc_new ((w.alloc (.cells #[.string (bs l), .int .i64 i] 57)).alloc (.cells #[.int .i64 0, .int .i64 0, .string ⟨#[]⟩] 41)) (.cells fnsA 75)
 rwa [show ((w.alloc (.cells #[.string (bs l), .int .i64 i] 57)).alloc (.cells #[.int .i64 0, .int .i64 0, .string ⟨#[]⟩] 41)).heap.size = w.heap.size + 1 + 1 from by simp] at h
def tokFrom (s : List UInt8) : Nat → Tk
 | 0 => tokAt s
 | 1 => (match numT s with | some x => some x | none => match quotV s with | some x => some x | none => signV s)
 | 2 => (match quotV s with | some x => some x | none => signV s)
 | 3 => signV s
 | _ => none
set_option maxHeartbeats 8000000 in
set_option maxRecDepth 100000 in
theorem token_any (l : List UInt8) (hl : l.length ≤ 1000000) (i : Nat) (c : UInt8) (r : List UInt8) (hA : At l i (c :: r)) (w : World) (hX : LaidT8 w) :
  Calls Tryz.prog 32 #[.agg #[.string (bs l), .int .i64 i]] w fun e w' => e = .returned (tkAtV i (tokAt (c :: r))) ∧ Below w.heap.size w w' := by
 have HK0 : Aside0 (∀ W, Below w.heap.size w W → Calls Tryz.prog 49 #[.agg #[.string (bs l), .int .i64 i]] W fun e w' => e = .returned (tkV (wordT (c :: r))) ∧ Below W.heap.size W w') := ⟨fun W hb => wordT_any l hl i c r hA W⟩
 have HK1 : Aside0 (∀ W, Below w.heap.size w W → Calls Tryz.prog 50 #[.agg #[.string (bs l), .int .i64 i]] W fun e w' => e = .returned (tkV (numT (c :: r))) ∧ Below W.heap.size W w') := ⟨fun W hb => lnumber_any l hl i c r hA W (hX.m.below hb)⟩
 have HK2 : Aside0 (∀ W, Below w.heap.size w W → Calls Tryz.prog 51 #[.agg #[.string (bs l), .int .i64 i]] W fun e w' => e = .returned (tkV (quotV (c :: r))) ∧ Below W.heap.size W w') := ⟨fun W hb => quoted_any l hl i c r hA W (fun W2 hb2 => (hX.v.below hb).below hb2)⟩
 have HK3 : Aside0 (∀ W, Below w.heap.size w W → Calls Tryz.prog 52 #[.agg #[.string (bs l), .int .i64 i]] W fun e w' => e = .returned (tkV (signV (c :: r))) ∧ Below W.heap.size W w') := ⟨fun W hb => sign_any8 l hl i (c :: r) hA W (fun W2 hb2 => (hX.b.below hb).below hb2)⟩
 obtain ⟨s, hs⟩ : ∃ s, c :: r = s := ⟨_, rfl⟩
 rw [hs] at HK0 HK1 HK2 HK3 ⊢
 have HB := Aside0.mk (TokB.new w l i)
 clear hA hX hs hl
 go_enter Tryz.func32, Tryz.ntmps32
 go_wp2_with fail
 go_loopg [10] 4 (fun q v10 wx => ∃ k : Nat, v10 = .int .i64 (k : Int) ∧ k + q = 4 ∧ Aside0 (tokFrom s k = tokAt s) ∧ Aside0 (TokB w wx l i))
 case atStart => exact ⟨0, rfl, rfl, ⟨rfl⟩, HB⟩
 case round =>
  clear HB
  obtain ⟨k, rfl, hk, HF, HB⟩ := hrel
  have x0 := HB.out.r.c0
  have x1 := HB.out.r.c1
  have y0 : wr.cell? ⟨w.heap.size + 1 + 1, 0, none⟩ = some (.func (.func 49) #[] #[]) := (blk_cell HB.out.f 0).trans rfl
  have y1 : wr.cell? ⟨w.heap.size + 1 + 1, 1, none⟩ = some (.func (.func 50) #[] #[]) := (blk_cell HB.out.f 1).trans rfl
  have y2 : wr.cell? ⟨w.heap.size + 1 + 1, 2, none⟩ = some (.func (.func 51) #[] #[]) := (blk_cell HB.out.f 2).trans rfl
  have y3 : wr.cell? ⟨w.heap.size + 1 + 1, 3, none⟩ = some (.func (.func 52) #[] #[]) := (blk_cell HB.out.f 3).trans rfl
  by_cases hk0 : k = 0
  ·subst hk0
   obtain ⟨q', rfl⟩ : ∃ q', gk = q' + 1 := ⟨gk - 1, by omega⟩
   obtain ⟨x, hx⟩ : ∃ x, wordT s = x := ⟨_, rfl⟩
   have HX := Aside0.mk hx
   clear hx
   cases x with
   | none =>
    have HF2 : Aside0 (tokFrom s 1 = tokAt s) := ⟨by rw [← HF.out]; simp only [tokFrom, tokAt, HX.out]⟩
    go_wp2_with fail
    refine (HK0.out _ HB.out.r.bel).mono ?_
    rw [HX.out]
    rintro e_ w5 ⟨rfl, hb5⟩
    have HB5 := Aside0.mk (HB.out.below hb5)
    clear hb5 HB x0 x1 y0 y1 y2 y3
    have HB := HB5
    unfold tkV tok0
    go_wp2_with fail
    go_roundg q'
    case measure => omega
    case rel => exact ⟨1, rfl, by omega, HF2, ⟨HB.out.below (below_alloc (Below.refl _ _) _)⟩⟩
   | some x =>
    obtain ⟨kd, tx, n⟩ := x
    have hn := word_pos HX.out
    have hn2 : (n : Int) > 0 := by omega
    have HV : Aside0 (tokAt s = some (kd, tx, n)) := ⟨by rw [← HF.out]; simp only [tokFrom, tokAt, HX.out]⟩
    go_wp2_with fail
    refine (HK0.out _ HB.out.r.bel).mono ?_
    rw [HX.out]
    rintro e_ w5 ⟨rfl, hb5⟩
    have HB5 := Aside0.mk (HB.out.below hb5)
    clear hb5 HB x0 x1 y0 y1 y2 y3
    have HB := HB5
    have x0 := HB.out.r.c0
    have x1 := HB.out.r.c1
    have k0 := HB.out.t.c0
    have k1 := HB.out.t.c1
    have k2 := HB.out.t.c2
    have f0 := HB.out.t.f0 0
    have f1 := HB.out.t.f0 1
    have f2 := HB.out.t.f0 2
    have hlt0 := heap_lt HB.out.r.blk
    have hlt1 := heap_lt HB.out.t.blk
    unfold tkV
    go_wp2_with fail
    have h3 := HB.out.t.set3 (.int .i64 kd) (.int .i64 i) (bs tx)
    refine bodyPost_ret (results_list (rs := [.cell 2 41, .tmp 3]) rfl (by simp) (.cell (w.heap.size + 1) 41 _ (0, 0) _ rfl ((Below.heap_alloc _ _ _ (heap_lt h3)).trans h3) rfl rfl rfl (.tmp .nil))) rfl ?_
    rw [HV.out]
    exact ⟨by first | rfl | simp [tkAtV], below_alloc (HB.out.t.bel3 _ _ _) _⟩
  by_cases hk1 : k = 1
  ·subst hk1
   obtain ⟨q', rfl⟩ : ∃ q', gk = q' + 1 := ⟨gk - 1, by omega⟩
   obtain ⟨x, hx⟩ : ∃ x, numT s = x := ⟨_, rfl⟩
   have HX := Aside0.mk hx
   clear hx
   cases x with
   | none =>
    have HF2 : Aside0 (tokFrom s 2 = tokAt s) := ⟨by rw [← HF.out]; simp only [tokFrom, tokAt, HX.out]⟩
    go_wp2_with fail
    refine (HK1.out _ HB.out.r.bel).mono ?_
    rw [HX.out]
    rintro e_ w5 ⟨rfl, hb5⟩
    have HB5 := Aside0.mk (HB.out.below hb5)
    clear hb5 HB x0 x1 y0 y1 y2 y3
    have HB := HB5
    unfold tkV tok0
    go_wp2_with fail
    go_roundg q'
    case measure => omega
    case rel => exact ⟨2, rfl, by omega, HF2, ⟨HB.out.below (below_alloc (Below.refl _ _) _)⟩⟩
   | some x =>
    obtain ⟨kd, tx, n⟩ := x
    have hn := num_pos HX.out
    have hn2 : (n : Int) > 0 := by omega
    have HV : Aside0 (tokAt s = some (kd, tx, n)) := ⟨by rw [← HF.out]; simp only [tokFrom, tokAt, HX.out]⟩
    go_wp2_with fail
    refine (HK1.out _ HB.out.r.bel).mono ?_
    rw [HX.out]
    rintro e_ w5 ⟨rfl, hb5⟩
    have HB5 := Aside0.mk (HB.out.below hb5)
    clear hb5 HB x0 x1 y0 y1 y2 y3
    have HB := HB5
    have x0 := HB.out.r.c0
    have x1 := HB.out.r.c1
    have k0 := HB.out.t.c0
    have k1 := HB.out.t.c1
    have k2 := HB.out.t.c2
    have f0 := HB.out.t.f0 0
    have f1 := HB.out.t.f0 1
    have f2 := HB.out.t.f0 2
    have hlt0 := heap_lt HB.out.r.blk
    have hlt1 := heap_lt HB.out.t.blk
    unfold tkV
    go_wp2_with fail
    have h3 := HB.out.t.set3 (.int .i64 kd) (.int .i64 i) (bs tx)
    refine bodyPost_ret (results_list (rs := [.cell 2 41, .tmp 3]) rfl (by simp) (.cell (w.heap.size + 1) 41 _ (0, 0) _ rfl ((Below.heap_alloc _ _ _ (heap_lt h3)).trans h3) rfl rfl rfl (.tmp .nil))) rfl ?_
    rw [HV.out]
    exact ⟨by first | rfl | simp [tkAtV], below_alloc (HB.out.t.bel3 _ _ _) _⟩
  by_cases hk2 : k = 2
  ·subst hk2
   obtain ⟨q', rfl⟩ : ∃ q', gk = q' + 1 := ⟨gk - 1, by omega⟩
   obtain ⟨x, hx⟩ : ∃ x, quotV s = x := ⟨_, rfl⟩
   have HX := Aside0.mk hx
   clear hx
   cases x with
   | none =>
    have HF2 : Aside0 (tokFrom s 3 = tokAt s) := ⟨by rw [← HF.out]; simp only [tokFrom, tokAt, HX.out]⟩
    go_wp2_with fail
    refine (HK2.out _ HB.out.r.bel).mono ?_
    rw [HX.out]
    rintro e_ w5 ⟨rfl, hb5⟩
    have HB5 := Aside0.mk (HB.out.below hb5)
    clear hb5 HB x0 x1 y0 y1 y2 y3
    have HB := HB5
    unfold tkV tok0
    go_wp2_with fail
    go_roundg q'
    case measure => omega
    case rel => exact ⟨3, rfl, by omega, HF2, ⟨HB.out.below (below_alloc (Below.refl _ _) _)⟩⟩
   | some x =>
    obtain ⟨kd, tx, n⟩ := x
    have hn := quot_pos HX.out
    have hn2 : (n : Int) > 0 := by omega
    have HV : Aside0 (tokAt s = some (kd, tx, n)) := ⟨by rw [← HF.out]; simp only [tokFrom, tokAt, HX.out]⟩
    go_wp2_with fail
    refine (HK2.out _ HB.out.r.bel).mono ?_
    rw [HX.out]
    rintro e_ w5 ⟨rfl, hb5⟩
    have HB5 := Aside0.mk (HB.out.below hb5)
    clear hb5 HB x0 x1 y0 y1 y2 y3
    have HB := HB5
    have x0 := HB.out.r.c0
    have x1 := HB.out.r.c1
    have k0 := HB.out.t.c0
    have k1 := HB.out.t.c1
    have k2 := HB.out.t.c2
    have f0 := HB.out.t.f0 0
    have f1 := HB.out.t.f0 1
    have f2 := HB.out.t.f0 2
    have hlt0 := heap_lt HB.out.r.blk
    have hlt1 := heap_lt HB.out.t.blk
    unfold tkV
    go_wp2_with fail
    have h3 := HB.out.t.set3 (.int .i64 kd) (.int .i64 i) (bs tx)
    refine bodyPost_ret (results_list (rs := [.cell 2 41, .tmp 3]) rfl (by simp) (.cell (w.heap.size + 1) 41 _ (0, 0) _ rfl ((Below.heap_alloc _ _ _ (heap_lt h3)).trans h3) rfl rfl rfl (.tmp .nil))) rfl ?_
    rw [HV.out]
    exact ⟨by first | rfl | simp [tkAtV], below_alloc (HB.out.t.bel3 _ _ _) _⟩
  by_cases hk3 : k = 3
  ·subst hk3
   obtain ⟨q', rfl⟩ : ∃ q', gk = q' + 1 := ⟨gk - 1, by omega⟩
   obtain ⟨x, hx⟩ : ∃ x, signV s = x := ⟨_, rfl⟩
   have HX := Aside0.mk hx
   clear hx
   cases x with
   | none =>
    have HF2 : Aside0 (tokFrom s 4 = tokAt s) := ⟨by rw [← HF.out]; simp only [tokFrom, HX.out]⟩
    go_wp2_with fail
    refine (HK3.out _ HB.out.r.bel).mono ?_
    rw [HX.out]
    rintro e_ w5 ⟨rfl, hb5⟩
    have HB5 := Aside0.mk (HB.out.below hb5)
    clear hb5 HB x0 x1 y0 y1 y2 y3
    have HB := HB5
    unfold tkV tok0
    go_wp2_with fail
    go_roundg q'
    case measure => omega
    case rel => exact ⟨4, rfl, by omega, HF2, ⟨HB.out.below (below_alloc (Below.refl _ _) _)⟩⟩
   | some x =>
    obtain ⟨kd, tx, n⟩ := x
    have hn := sign_pos HX.out
    have hn2 : (n : Int) > 0 := by omega
    have HV : Aside0 (tokAt s = some (kd, tx, n)) := ⟨by rw [← HF.out]; simp only [tokFrom, tokAt, HX.out]⟩
    go_wp2_with fail
    refine (HK3.out _ HB.out.r.bel).mono ?_
    rw [HX.out]
    rintro e_ w5 ⟨rfl, hb5⟩
    have HB5 := Aside0.mk (HB.out.below hb5)
    clear hb5 HB x0 x1 y0 y1 y2 y3
    have HB := HB5
    have x0 := HB.out.r.c0
    have x1 := HB.out.r.c1
    have k0 := HB.out.t.c0
    have k1 := HB.out.t.c1
    have k2 := HB.out.t.c2
    have f0 := HB.out.t.f0 0
    have f1 := HB.out.t.f0 1
    have f2 := HB.out.t.f0 2
    have hlt0 := heap_lt HB.out.r.blk
    have hlt1 := heap_lt HB.out.t.blk
    unfold tkV
    go_wp2_with fail
    have h3 := HB.out.t.set3 (.int .i64 kd) (.int .i64 i) (bs tx)
    refine bodyPost_ret (results_list (rs := [.cell 2 41, .tmp 3]) rfl (by simp) (.cell (w.heap.size + 1) 41 _ (0, 0) _ rfl ((Below.heap_alloc _ _ _ (heap_lt h3)).trans h3) rfl rfl rfl (.tmp .nil))) rfl ?_
    rw [HV.out]
    exact ⟨by first | rfl | simp [tkAtV], below_alloc (HB.out.t.bel3 _ _ _) _⟩
  have hk4 : k = 4 := by omega
  subst hk4
  have HV : Aside0 (tokAt s = none) := ⟨by rw [← HF.out]; rfl⟩
  have k0 := HB.out.t.c0
  have k1 := HB.out.t.c1
  have k2 := HB.out.t.c2
  have f0 := HB.out.t.f0 0
  have f1 := HB.out.t.f0 1
  have f2 := HB.out.t.f0 2
  go_wp2_with fail
  refine bodyPost_ret (results_list (rs := [.cell 2 41, .tmp 3]) rfl (by simp) (.cell (w.heap.size + 1) 41 _ (0, 0) _ rfl (HB.out.t.set3 (.int .i64 0) (.int .i64 0) ⟨#[]⟩) rfl rfl rfl (.tmp .nil))) rfl ?_
  rw [HV.out]
  exact ⟨by first | rfl | simp [tkAtV, tok0], HB.out.t.bel3 _ _ _⟩
end Go.Proofs.YtjleceekccehoaaGreatDoor.Pr
end

section
set_option linter.unusedVariables false
set_option linter.unusedSimpArgs false
namespace Go.Proofs.YtjleceekccehoaaGreatDoor.Pr
open Go.RowKit Go.Proofs.YtjleceekccehoaaGreatDoorW.PrintWords Go.Proofs.YtjleceekccehoaaGreatDoorW.PrintLast Go.Proofs.YtjleceekccehoaaGreatDoorW.PrintMore

abbrev Tok := S41
/-- The tokens of what stands at place i, or the place of what is none. -/
def lexL : Nat → Nat → List UInt8 → Except Nat (List Tok)
 | 0, _, _ => .ok []
 | f + 1, i, s => if s = [] then .ok [] else if blankV s = 0 then (match tokAt s with
   | none => .error i
   | some (k, t, n) => match lexL f (i + n) (s.drop n) with | .ok l => .ok (⟨(k : Nat), (i : Nat), bs t⟩ :: l) | .error e => .error e)
  else lexL f (i + blankV s) (s.drop (blankV s))
def lexS (i : Nat) (s : List UInt8) : Except Nat (List Tok) := lexL s.length i s
def lexCat (out : List Tok) : Except Nat (List Tok) → Except Nat (List Tok) | .ok l => .ok (out ++ l) | .error e => .error e
theorem tok_pos {s t : List UInt8} {k n : Nat} (h : tokAt s = some (k, t, n)) : 0 < n := by
 unfold tokAt at h
 cases h1 : wordT s with
 | some x => rw [h1] at h; exact word_pos (h1.trans h)
 | none =>
  rw [h1] at h
  cases h2 : numT s with
  | some x => rw [h2] at h; exact num_pos (h2.trans h)
  | none =>
   rw [h2] at h
   cases h3 : quotV s with
   | some x => rw [h3] at h; exact quot_pos (h3.trans h)
   | none => rw [h3] at h; exact sign_pos h
theorem lexL_fuel : ∀ (f f' i : Nat) (s : List UInt8), s.length ≤ f → s.length ≤ f' → lexL f i s = lexL f' i s := by
 intro f
 induction f with
 | zero =>
  intro f' i s h _
  have : s = [] := List.length_eq_zero_iff.1 (by omega)
  subst this
  cases f' with
  | zero => rfl
  | succ f' => rfl
 | succ f ih =>
  intro f' i s h h'
  cases f' with
  | zero =>
   have : s = [] := List.length_eq_zero_iff.1 (by omega)
   subst this
   rfl
  | succ f' =>
   unfold lexL
   by_cases h0 : s = []
   ·rw [if_pos h0, if_pos h0]
   ·rw [if_neg h0, if_neg h0]
    have hp : 0 < s.length := List.length_pos_iff.2 h0
    by_cases hb : blankV s = 0
    ·rw [if_pos hb, if_pos hb]
     cases ht : tokAt s with
     | none => rfl
     | some x =>
      obtain ⟨k, t, n⟩ := x
      have hn := tok_pos ht
      simp only
      rw [ih f' (i + n) (s.drop n) (by rw [List.length_drop]; omega) (by rw [List.length_drop]; omega)]
    ·rw [if_neg hb, if_neg hb]
     exact ih f' _ _ (by rw [List.length_drop]; omega) (by rw [List.length_drop]; omega)
theorem lexS_blank (i : Nat) (c : UInt8) (r : List UInt8) (hb : blankV (c :: r) ≠ 0) : lexS i (c :: r) = lexS (i + blankV (c :: r)) ((c :: r).drop (blankV (c :: r))) := by
 unfold lexS
 rw [List.length_cons, lexL, if_neg (by simp), if_neg hb]
 exact lexL_fuel _ _ _ _ (by rw [List.length_drop, List.length_cons]; omega) (by omega)
theorem lexS_none (i : Nat) (c : UInt8) (r : List UInt8) (hb : blankV (c :: r) = 0) (ht : tokAt (c :: r) = none) : lexS i (c :: r) = .error i := by
 unfold lexS
 rw [List.length_cons, lexL, if_neg (by simp), if_pos hb, ht]
theorem lexS_some (i : Nat) (c : UInt8) (r : List UInt8) (hb : blankV (c :: r) = 0) (k : Nat) (t : List UInt8) (n : Nat) (ht : tokAt (c :: r) = some (k, t, n)) : lexS i (c :: r) = lexCat [⟨(k : Nat), (i : Nat), bs t⟩] (lexS (i + n) ((c :: r).drop n)) := by
 have hn := tok_pos ht
 unfold lexS
 rw [List.length_cons, lexL, if_neg (by simp), if_pos hb, ht]
 simp only
 rw [lexL_fuel r.length ((c :: r).drop n).length _ _ (by rw [List.length_drop, List.length_cons]; omega) (by omega)]
 cases lexL ((c :: r).drop n).length (i + n) ((c :: r).drop n) <;> rfl
theorem lexCat_C (a b : List Tok) (r : Except Nat (List Tok)) : lexCat a (lexCat b r) = lexCat (a ++ b) r := by
 cases r <;> simp [lexCat]
theorem lexCat_nil (r : Except Nat (List Tok)) : lexCat [] r = r := by cases r <;> simp [lexCat]
theorem blankV_le (s : List UInt8) : blankV s ≤ s.length := by
 unfold blankV
 split
 ·cases s with
  | nil => exact Nat.le_refl _
  | cons c r =>
   simp only
   split
   ·exact run_le _ _
   ·exact Nat.zero_le _
 ·exact run_le _ _
/-- A token lies within what is left. -/
theorem tok_le {s t : List UInt8} {k n : Nat} (h : tokAt s = some (k, t, n)) : n ≤ s.length := by
 unfold tokAt at h
 cases h1 : wordT s with
 | some x =>
  rw [h1] at h
  have h := h1.trans h
  cases s with
  | nil => cases h
  | cons c r =>
   unfold wordT at h
   by_cases hl : isLet c.toNat = true
   ·simp only [if_pos hl, Option.some.injEq, Prod.mk.injEq] at h
    rw [← h.2.2]
    have : wordV (c :: r) = run (fun z => isLet z || isDig z) (c :: r) := if_pos hl
    rw [this]; exact run_le _ _
   ·simp only [if_neg hl] at h; cases h
 | none =>
  rw [h1] at h
  cases h2 : numT s with
  | some x =>
   rw [h2] at h
   have h := h2.trans h
   unfold numT at h
   split at h
   ·split at h
    ·cases h
    ·simp only [Option.some.injEq, Prod.mk.injEq] at h
     rw [← h.2.2]; exact numTx_le s
   ·cases h
  | none =>
   rw [h2] at h
   cases h3 : quotV s with
   | some x =>
    rw [h3] at h
    have h := h3.trans h
    cases s with
    | nil => cases h
    | cons c r =>
     unfold quotV at h
     simp only at h
     split at h
     ·cases hq : quotR r [] with
      | none => rw [hq] at h; cases h
      | some x =>
       obtain ⟨o2, r2⟩ := x
       rw [hq] at h
       unfold quotT at h
       simp only at h
       split at h
       ·simp only [Option.some.injEq, Prod.mk.injEq] at h
        omega
       ·cases h
     ·cases h
   | none =>
    rw [h3] at h
    unfold signV at h
    cases hf : signs.find? (fun p => Lib.hasPrefix s p) with
    | none => rw [hf] at h; cases h
    | some p =>
     rw [hf] at h
     simp only [Option.some.injEq, Prod.mk.injEq] at h
     have hp : Lib.hasPrefix s p = true := List.find?_some (p := fun p => Lib.hasPrefix s p) hf
     rw [← h.2.2]
     unfold Lib.hasPrefix at hp
     simp at hp
     exact hp.length_le
end Go.Proofs.YtjleceekccehoaaGreatDoor.Pr
end

section
set_option linter.unusedVariables false
set_option linter.unusedSimpArgs false
namespace Go.Proofs.YtjleceekccehoaaGreatDoor.Pr
open Go.RowKit Go.Proofs.YtjleceekccehoaaGreatDoorW.PrintWords Go.Proofs.YtjleceekccehoaaGreatDoorW.PrintLast Go.Proofs.YtjleceekccehoaaGreatDoorW.PrintMore

/-- Lex's own blocks: its rest, its row of tokens. -/
structure LxB (w0 w : World) (l : List UInt8) (i : Nat) (v : Value) (out : List Tok) : Prop where
 r : RBox w0 w w0.heap.size l i
 row : Kd.R k41 41 w w0.heap.size (fun _ => True) v out
theorem info41 : (Tryz.prog.info? 41).map (fun i => (i.zero, i.size, i.bytes)) = some (some (.agg #[.int .i64 0, .int .i64 0, .string ⟨#[]⟩]), 3, 32) := by kernel_rfl
section
variable {w0 W W' : World} {l : List UInt8} {i : Nat} {v : Value} {out : List Tok}
theorem LxB.new (w0 : World) (l : List UInt8) : LxB w0 (w0.alloc (.cells #[.string (bs l), .int .i64 (0 : Nat)] 57)) l 0 (.slice none 0 0) [] :=
 ⟨RBox.new (w0 := w0) w0 l 0 (Below.refl _ _), Kd.R_nil _ _ _ _ _⟩
theorem LxB.below (h : LxB w0 W l i v out) (hb : Below W.heap.size W W') : LxB w0 W' l i v out := ⟨h.r.below hb, Kd.R_below h.row hb⟩
theorem RBox.froz {g : Nat} (h : RBox w0 W g l i) (j : Nat) : W.frozen? ⟨g, j, none⟩ = false := by have h1 := h.blk; simp [World.frozen?, h1]
theorem LxB.setI (h : LxB w0 W l i v out) (j : Nat) : LxB w0 (W.setCell ⟨w0.heap.size, 1, none⟩ (.int .i64 (j : Nat))) l j v out :=
 ⟨⟨by have h1 := h.r.blk; simp [World.setCell, Array.getElem?_modify, h1], h.r.ge, below_set h.r.bel (Nat.le_refl _)⟩, Kd.R_set h.row h.r.blk (by decide) 1 _⟩
theorem LxB.setI' (h : LxB w0 W l i v out) (j : Nat) (x : Int) (hx : ((j : Nat) : Int) = x) : LxB w0 (W.setCell ⟨w0.heap.size, 1, none⟩ (.int .i64 x)) l j v out := by subst hx; exact h.setI j
variable {P : Program} {ops : Array Oper} {o : Oper} {a : Act} {Q : Exit → Act → World → Prop} {rest : List Oper}
theorem lapp (hgd : o.guard = none) (s x : Operand) (ho : o.op = .call { callee := .builtin .append, args := #[s, x], argTypes := #[29, 29] })
  (ht : P.underlying 29 = some (.slice 41)) (hinfo : (P.info? 41).map (fun i => (i.zero, i.size, i.bytes)) = some (some (.agg #[.int .i64 0, .int .i64 0, .string ⟨#[]⟩]), 3, 32))
  (y : Tok) (h : LxB w0 W l i v out) (hs : a.eval s = v) (m : Nat) (hm : W.heap.size = m) (hx : a.eval x = .slice (some ⟨m, 0, none⟩) 1 1) (hl : out.length ≤ 1000000)
  (K : ∀ v1 w1, LxB w0 w1 l i v1 (out ++ [y]) → wpList P ops Q rest (a.put o.dst v1) w1) : wpList P ops Q (o :: rest) a (W.alloc (.cells #[.int .i64 y.f0, .int .i64 y.f1, .string y.f2] 41)) := by
 subst hm
 refine Kd.R_append k41 (w0 := w0) w0.heap.size hgd s x 29 41 (.agg #[.int .i64 0, .int .i64 0, .string ⟨#[]⟩]) 32 ho ht hinfo rfl (by decide) (by omega) v out y [.int .i64 y.f0, .int .i64 y.f1, .string y.f2] (fun _ => True) (fun _ => False) hs hx (k41_mkM _ _ _ _) (fun _ hk => hk.elim) (fun _ _ => trivial) h.row h.r.bel h.r.bel.size (by omega) ?_
 intro v1 w1 hr hb hg _
 exact K v1 w1 ⟨⟨(hg.block _ (heap_lt h.r.blk) (Kd.R_ne h.row h.r.blk (by decide))).trans h.r.blk, h.r.ge, hb⟩, hr⟩
end
/-- What Lex leaves behind. -/
def LexE (w : World) (r : Except Nat (List Tok)) (e : Ending) (w' : World) : Prop :=
 match r with
 | .ok toks => ∃ v, e = .returned (.tuple #[v, .nilIface]) ∧ Kd.R k41 41 w' w.heap.size (fun _ => True) v toks
 | .error p => ∃ g, e = .returned (.tuple #[.slice none 0 0, .iface 61 (.pointer (some ⟨g, 0, none⟩))]) ∧ w.heap.size ≤ g ∧ w'.heap[g]? = some (.cells #[.int .i64 p, .iface 55 (.int .i64 5)] 63 (0, 0))
set_option maxHeartbeats 1000000 in
set_option maxRecDepth 100000 in
theorem lex_long (l : List UInt8) (hl : 4000 < l.length) (w : World) : Calls Tryz.prog 18 #[.string (bs l)] w fun e w' => e = .returned (.tuple #[.slice none 0 0, .iface 55 (.int .i64 11)]) ∧ w' = w := by
 have hsz := bs_size l
 have t1 : (l.length : Int) > 4000 := by omega
 clear hl
 go_enter Tryz.func18, Tryz.ntmps18
 go_wp2_with fail
 go_ret2
 exact ⟨by first | rfl | simp, rfl⟩
set_option maxHeartbeats 8000000 in
set_option maxRecDepth 100000 in
theorem lex_any (l : List UInt8) (hl : l.length ≤ 4000) (w : World) (hX : LaidT8 w) : Calls Tryz.prog 18 #[.string (bs l)] w fun e w' => LexE w (lexS 0 l) e w' ∧ Below w.heap.size w w' := by
 have hsz := bs_size l
 have t1 : ((l.length : Int) > 4000) = False := eq_false (by omega)
 have HX := Aside0.mk hX
 have HL := Aside0.mk hl
 have HB := Aside0.mk (LxB.new w l)
 obtain ⟨R, hR⟩ : ∃ R, lexS 0 l = R := ⟨_, rfl⟩
 have HR := Aside0.mk hR
 rw [hR]
 clear hX hR
 go_enter Tryz.func18, Tryz.ntmps18
 go_wp2_with fail
 go_loopg [4] l.length (fun q v4 wx => ∃ (i : Nat) (s : List UInt8) (out : List Tok), q = s.length ∧ i ≤ l.length ∧ out.length ≤ i ∧ Aside0 (At l i s) ∧ Aside0 (lexCat out (lexS i s) = R) ∧ Aside0 (LxB w wx l i v4 out))
 case atStart => exact ⟨0, l, [], rfl, Nat.zero_le _, Nat.le_refl _, ⟨⟨Nat.zero_le _, rfl⟩⟩, ⟨by rw [lexCat_nil]; exact HR.out⟩, HB⟩
 case round =>
  clear HB
  obtain ⟨i, s, out, hq, hi, ho, HA, HC, HB⟩ := hrel
  have HQ := Aside0.mk hq
  clear hq
  have x0 := HB.out.r.c0
  have x1 := HB.out.r.c1
  have f1 := HB.out.r.froz 1
  cases s with
  | nil =>
   have hil := HA.out.nil
   have t3 : ((i : Int) < (l.length : Int)) = False := eq_false (by omega)
   have HV : Aside0 (R = .ok out) := ⟨by rw [← HC.out]; show Except.ok (out ++ []) = _; rw [List.append_nil]⟩
   clear hil
   go_wp2_with fail
   go_ret2
   rw [HV.out]
   exact ⟨⟨_, by first | rfl | simp, HB.out.row⟩, HB.out.r.bel⟩
  | cons c r =>
   have hlt := HA.out.lt
   have t3 : (i : Int) < (l.length : Int) := by omega
   obtain ⟨b, hb⟩ : ∃ b, blankV (c :: r) = b := ⟨_, rfl⟩
   have HBL : Aside0 (∀ W, Calls Tryz.prog 31 #[.agg #[.string (bs l), .int .i64 i]] W fun e w' => e = .returned (.int .i64 b) ∧ Below W.heap.size W w') := ⟨fun W => by rw [← hb]; exact blank_any l (by have := HL.out; omega) i c r HA.out W⟩
   have hbl := blankV_le (c :: r)
   have hlen := HA.out.len
   rw [hb] at hbl
   by_cases h0 : b = 0
   ·have HTK : Aside0 (∀ W, LaidT8 W → Calls Tryz.prog 32 #[.agg #[.string (bs l), .int .i64 i]] W fun e w' => e = .returned (tkAtV i (tokAt (c :: r))) ∧ Below W.heap.size W w') := ⟨fun W h => token_any l (by have := HL.out; omega) i c r HA.out W h⟩
    cases ht : tokAt (c :: r) with
    | none =>
     have HV : Aside0 (R = .error i) := ⟨by rw [← HC.out, lexS_none i c r (hb.trans h0) ht]; rfl⟩
     rw [ht] at HTK
     subst h0
     clear hb ht hbl hlen hlt
     go_wp2_with fail
     refine (HBL.out _).mono ?_
     rintro e_ w1 ⟨rfl, hb1⟩
     have HB1 := Aside0.mk (HB.out.below hb1)
     clear hb1 HB x0 x1 f1
     have x0 := HB1.out.r.c0
     have x1 := HB1.out.r.c1
     go_wp2_with fail
     refine (HTK.out _ (HX.out.below HB1.out.r.bel)).mono ?_
     rintro e_ w2 ⟨rfl, hb2⟩
     have HB2 := Aside0.mk (HB1.out.below hb2)
     clear hb2 HB1 x0 x1
     have x0 := HB2.out.r.c0
     have x1 := HB2.out.r.c1
     have hlt2 := heap_lt HB2.out.r.blk
     unfold tkAtV tok0
     go_wp2_with fail
     go_region
     go_wp2_with fail
     go_ret2
     rw [HV.out]
     have hh := heap_alloc_new (w2.alloc (.cells #[.int .i64 0, .int .i64 0, .string ⟨#[]⟩] 41)) (.cells #[.int .i64 i, .iface 55 (.int .i64 5)] 63)
     rw [show (w2.alloc (.cells #[.int .i64 0, .int .i64 0, .string ⟨#[]⟩] 41)).heap.size = w2.heap.size + 1 from Array.size_push _] at hh
     have hbb : Below w.heap.size w ((w2.alloc (.cells #[.int .i64 0, .int .i64 0, .string ⟨#[]⟩] 41)).alloc (.cells #[.int .i64 i, .iface 55 (.int .i64 5)] 63)) := below_alloc (below_alloc HB2.out.r.bel _) _
     exact ⟨⟨w2.heap.size + 1, by first | rfl | simp, by have := HB2.out.r.bel.size; omega, hh⟩, hbb.drew⟩
    | some x =>
     obtain ⟨k, t, n⟩ := x
     have hn := tok_pos ht
     have hnl := tok_le ht
     have HV : Aside0 (lexCat (out ++ [⟨(k : Nat), (i : Nat), bs t⟩]) (lexS (i + n) ((c :: r).drop n)) = R) := ⟨by rw [← HC.out, lexS_some i c r (hb.trans h0) k t n ht, lexCat_C]⟩
     have HA2 : Aside0 (At l (i + n) ((c :: r).drop n)) := ⟨⟨by omega, by rw [← HA.out.eq, List.drop_drop]⟩⟩
     have HD : Aside0 (((c :: r).drop n).length < (c :: r).length) := ⟨by rw [List.length_drop]; omega⟩
     have hi2 : i + n ≤ l.length := by omega
     have hl4 := HL.out
     have e0 : ((n : Int) == 0) = false := by rw [beq_eq_false_iff_ne]; omega
     rw [ht] at HTK
     subst h0
     obtain ⟨s2, hs2⟩ : ∃ s2, (c :: r).drop n = s2 := ⟨_, rfl⟩
     rw [hs2] at HV HA2 HD
     clear hb ht hbl hlen hlt hnl hs2
     go_wp2_with fail
     refine (HBL.out _).mono ?_
     rintro e_ w1 ⟨rfl, hb1⟩
     have HB1 := Aside0.mk (HB.out.below hb1)
     clear hb1 HB x0 x1 f1
     have x0 := HB1.out.r.c0
     have x1 := HB1.out.r.c1
     go_wp2_with fail
     refine (HTK.out _ (HX.out.below HB1.out.r.bel)).mono ?_
     rintro e_ w2 ⟨rfl, hb2⟩
     have HB2 := Aside0.mk (HB1.out.below hb2)
     clear hb2 HB1 x0 x1
     have x0 := HB2.out.r.c0
     have x1 := HB2.out.r.c1
     have hlt2 := heap_lt HB2.out.r.blk
     unfold tkAtV
     go_wp2_with ((with_reducible refine gate_builtin (b := .append) (xs := #[.tmp 42, .tmp 44]) rfl ?_); at_builtin; refine lapp rfl (.tmp 42) (.tmp 44) rfl Tryz.underlying29 info41 (⟨(k : Nat), (i : Nat), bs t⟩ : Tok) (HB2.out.below (below_alloc (Below.refl _ _) _)) rfl (w2.heap.size + 1) (by simp) rfl (by omega) ?_; intro v_ w_ hs_; have HB3 := Aside0.mk hs_; clear hs_; have y0 := HB3.out.r.c0; have y1 := HB3.out.r.c1; have g1 := HB3.out.r.froz 1)
     go_roundg s2.length
     case measure => have := HQ.out; have := HD.out; omega
     case rel => exact ⟨i + n, s2, out ++ [⟨(k : Nat), (i : Nat), bs t⟩], rfl, hi2, by simp; omega, HA2, HV, ⟨HB3.out.setI' (i + n) _ (by omega)⟩⟩
   ·have HV : Aside0 (lexCat out (lexS (i + b) ((c :: r).drop b)) = R) := ⟨by rw [← HC.out, lexS_blank i c r (by rw [hb]; exact h0), hb]⟩
    have HA2 : Aside0 (At l (i + b) ((c :: r).drop b)) := ⟨⟨by omega, by rw [← HA.out.eq, List.drop_drop]⟩⟩
    have HD : Aside0 (((c :: r).drop b).length < (c :: r).length) := ⟨by rw [List.length_drop]; simp; omega⟩
    have hi2 : i + b ≤ l.length := by omega
    have hl4 := HL.out
    have e0 : (b : Int) > 0 := by omega
    obtain ⟨s2, hs2⟩ : ∃ s2, (c :: r).drop b = s2 := ⟨_, rfl⟩
    rw [hs2] at HV HA2 HD
    clear hb hbl hlen hlt hs2
    go_wp2_with fail
    refine (HBL.out _).mono ?_
    rintro e_ w1 ⟨rfl, hb1⟩
    have HB1 := Aside0.mk (HB.out.below hb1)
    clear hb1 HB x0 x1 f1
    have x0 := HB1.out.r.c0
    have x1 := HB1.out.r.c1
    have f1 := HB1.out.r.froz 1
    go_wp2_with fail
    go_roundg s2.length
    case measure => have := HQ.out; have := HD.out; omega
    case rel => exact ⟨i + b, s2, out, rfl, hi2, by omega, HA2, HV, ⟨HB1.out.setI' (i + b) _ (by omega)⟩⟩
end Go.Proofs.YtjleceekccehoaaGreatDoor.Pr
end
