/- Texts of this session, cut down to what one claim needs and joined: LexQ0, LexQ. -/
import Derived.Test.YtjleceekccehoaaGreatDoorVGJ18
import Derived.Test.YtjleceekccehoaaGreatDoorVGJ17
import Derived.Test.YtjleceekccehoaaGreatDoorVGJ0
import Derived.RegionTactic
section
set_option linter.unusedVariables false
set_option linter.unusedSimpArgs false
namespace Go.Proofs.YtjleceekccehoaaGreatDoor.Pr
open Go.RowKit Go.Proofs.YtjleceekccehoaaGreatDoorW.PrintWords Go.Proofs.YtjleceekccehoaaGreatDoorW.PrintLast Go.Proofs.YtjleceekccehoaaGreatDoorW.PrintMore

/-- Bytes as whole numbers. -/
def zs (l : List UInt8) : List Int := l.map fun c => (c.toNat : Int)
/-- v is an own row of the bytes out, beside the rest and the token of a method. -/
structure Qt (w0 W : World) (l : List UInt8) (i : Nat) (v : Value) (out : List UInt8) : Prop where
 row : Kd.R (Kd.int .u8) 5 W w0.heap.size (fun _ => True) v (zs out)
 r : RBox w0 W w0.heap.size l i
 t : TkB w0 W (w0.heap.size + 1)
section
variable {w0 W W' : World} {l : List UInt8} {i : Nat} {v : Value} {out : List UInt8}
theorem Qt.new (w0 : World) (l : List UInt8) (i : Nat) : Qt w0 ((w0.alloc (.cells #[.string (bs l), .int .i64 i] 57)).alloc (.cells #[.int .i64 0, .int .i64 0, .string ⟨#[]⟩] 41)) l i (.slice none 0 0) [] :=
 ⟨Kd.R_nil _ _ _ _ _, (RBox.new (w0 := w0) w0 l i (Below.refl _ _)).below (below_alloc (Below.refl _ _) _), TkB.new w0 l i⟩
theorem Qt.below (h : Qt w0 W l i v out) (hb : Below W.heap.size W W') : Qt w0 W' l i v out := ⟨Kd.R_below h.row hb, h.r.below hb, h.t.below hb⟩
theorem row_bsm {base : Nat} {ok : Nat → Prop} (h : Kd.R (Kd.int .u8) 5 W base ok v (zs out)) : (out = [] ∧ (∃ A c, v = .slice A 0 c)) ∨ ∃ g c, v = .slice (some ⟨g, 0, none⟩) out.length c ∧ 0 < out.length ∧ out.length ≤ c ∧ BsM W g 0 (bs out) := by
 have hlen : (zs out).length = out.length := by simp [zs]
 obtain ⟨A, c, he, hl, hr⟩ := Kd.R_reads h
 rw [hlen] at he hl hr
 by_cases h0 : out = []
 ·subst h0
  exact Or.inl ⟨rfl, A, c, he⟩
 ·have hp : 0 < out.length := List.length_pos_iff.2 h0
  right
  obtain ⟨ad, hA, hc⟩ := hr.2.2 hp
  obtain ⟨inner, ho⟩ := Kd.R_own h
  have had : ∃ g, ad = ⟨g, 0, none⟩ := by
   rcases ho.2 with ⟨hv, _⟩ | ⟨g, cap, cur, hv, _⟩
   ·rw [hv] at he
    injection he with h1 h2
    rw [hA] at h1; cases h1
   ·rw [hv] at he
    injection he with h1 h2
    rw [hA] at h1
    exact ⟨g, (Option.some.inj h1).symm⟩
  obtain ⟨g, rfl⟩ := had
  subst hA
  refine ⟨g, c, he, hp, hl, fun j hj => ?_⟩
  have hj2 : j < out.length := by rwa [bs_size] at hj
  have hz : (zs out)[j]? = some ((out[j]).toNat : Int) := by simp [zs, hj2]
  obtain ⟨cs, hcs, hR, hcell⟩ := hc j _ hz
  have hk : cs = [Value.int .u8 ((out[j]).toNat : Int)] := hR
  have h1 := hcell 0 (Value.int .u8 ((out[j]).toNat : Int)) (by rw [hk]; rfl)
  have e : (⟨g, 0, none⟩ : Addr).add (j * (Kd.int .u8).sz + 0) = ⟨g, 0 + j, none⟩ := by
   show (⟨g, 0, none⟩ : Addr).add (j * 1 + 0) = _
   simp [Addr.add]
   try (intro h; exact h.symm)
  rw [e] at h1
  rw [h1]
  rfl
theorem valid_any' (h : Qt w0 W l i v out) (ho : out.length ≤ 1000000) (hT : Lib.Utf8Tabs 4 5 W) :
  Calls Tryz.prog 75 #[v] W fun e w' => e = .returned (.bool (Lib.validD out)) ∧ Below W.heap.size W w' := by
 rcases row_bsm h.row with ⟨rfl, A, c, rfl⟩ | ⟨g, c, rfl, hp, hc, hM⟩
 ·refine (valid_nil A c W).mono fun e w' h => ?_
  rw [Lib.validD_nil]
  exact h
 ·have h1 := valid_row (bs out) (by rw [bs_size]; exact ho) g 0 c (by rw [bs_size]; exact hc) W (by rw [bs_size]; exact hp) hM hT
  rw [bs_size] at h1
  have e : (bs out).data.toList = out := by simp [bs]
  rw [e] at h1
  exact h1
variable {P : Program} {ops : Array Oper} {o : Oper} {a : Act} {Q : Exit → Act → World → Prop} {rest : List Oper}
theorem qapp (hgd : o.guard = none) (s x : Operand) (ho : o.op = .call { callee := .builtin .append, args := #[s, x], argTypes := #[97, 97] })
  (ht : P.underlying 97 = some (.slice 5)) (hinfo : (P.info? 5).map (fun i => (i.zero, i.size, i.bytes)) = some (some (.int .u8 0), 1, 1))
  (c : UInt8) (h : Qt w0 W l i v out) (hs : a.eval s = v) (hx : a.eval x = .slice (some ⟨W.heap.size, 0, none⟩) 1 1) (hl : out.length ≤ 1000000)
  (K : ∀ v1 w1, Qt w0 w1 l i v1 (out ++ [c]) → wpList P ops Q rest (a.put o.dst v1) w1) : wpList P ops Q (o :: rest) a (W.alloc (.cells #[.int .u8 (c.toNat : Nat)] 5)) := by
 refine Kd.R_append (Kd.int .u8) (w0 := w0) w0.heap.size hgd s x 97 5 (.int .u8 0) 1 ho ht hinfo rfl (by decide) (by omega) v (zs out) (c.toNat : Nat) [.int .u8 (c.toNat : Nat)] (fun _ => True) (fun _ => False) hs hx rfl (fun _ hk => hk.elim) (fun _ _ => trivial) h.row h.r.bel h.r.bel.size (by simp [zs]; omega) ?_
 intro v1 w1 hr hb hg _
 refine K v1 w1 ⟨by rw [show zs (out ++ [c]) = zs out ++ [((c.toNat : Nat) : Int)] from by simp [zs]]; exact hr, ⟨(hg.block _ (heap_lt h.r.blk) (Kd.R_ne h.row h.r.blk (by decide))).trans h.r.blk, h.r.ge, hb⟩, ⟨(hg.block _ (heap_lt h.t.blk) (Kd.R_ne h.row h.t.blk (by decide))).trans h.t.blk, h.t.ge, hb⟩⟩
end
end Go.Proofs.YtjleceekccehoaaGreatDoor.Pr
end

section
set_option linter.unusedVariables false
set_option linter.unusedSimpArgs false
namespace Go.Proofs.YtjleceekccehoaaGreatDoor.Pr
open Go.RowKit Go.Proofs.YtjleceekccehoaaGreatDoorW.PrintWords Go.Proofs.YtjleceekccehoaaGreatDoorW.PrintLast Go.Proofs.YtjleceekccehoaaGreatDoorW.PrintMore

/-- What a quoted text stands for, and what is left behind it; out: so far. -/
def quotR : List UInt8 → List UInt8 → Option (List UInt8 × List UInt8)
 | [], _ => none
 | c :: r, out => if c.toNat = 34 then some (out, r) else if c.toNat = 10 then none else if c.toNat = 92 then
   (match r with
    | [] => none
    | d :: r2 => if d.toNat = 34 ∨ d.toNat = 92 then quotR r2 (out ++ [d]) else if d.toNat = 110 then quotR r2 (out ++ [10]) else none)
  else quotR r (out ++ [c])
theorem quotR_cons (c : UInt8) (r out : List UInt8) : quotR (c :: r) out = if c.toNat = 34 then some (out, r) else if c.toNat = 10 then none else if c.toNat = 92 then
   (match r with
    | [] => none
    | d :: r2 => if d.toNat = 34 ∨ d.toNat = 92 then quotR r2 (out ++ [d]) else if d.toNat = 110 then quotR r2 (out ++ [10]) else none)
  else quotR r (out ++ [c]) := by
 cases r <;> rw [quotR.eq_def]
/-- What is told: of what is left from the first sign on. -/
def quotT (n : Nat) : Option (List UInt8 × List UInt8) → Tk
 | none => none
 | some (out, r) => if Lib.validD out = true then some (4, out, n - r.length) else none
def quotV (s : List UInt8) : Tk := match s with | [] => none | c :: r => if c.toNat = 34 then quotT s.length (quotR r []) else none
/-- The tables of package utf8. -/
def LaidV8 (w : World) : Prop := Lib.Utf8Tabs 4 5 w
theorem LaidV8.below {w w' : World} (h : LaidV8 w) (hb : Below w.heap.size w w') : LaidV8 w' := Go.Proofs.Utf8Tabs_below h hb
theorem qapp' {w0 W : World} {l : List UInt8} {i : Nat} {v : Value} {out : List UInt8} {P : Program} {ops : Array Oper} {o : Oper} {a : Act} {Q : Exit → Act → World → Prop} {rest : List Oper} (hgd : o.guard = none) (s x : Operand) (ho : o.op = .call { callee := .builtin .append, args := #[s, x], argTypes := #[97, 97] })
  (ht : P.underlying 97 = some (.slice 5)) (hinfo : (P.info? 5).map (fun i => (i.zero, i.size, i.bytes)) = some (some (.int .u8 0), 1, 1))
  (c : UInt8) (z : Int) (hz : (c.toNat : Int) = z) (h : Qt w0 W l i v out) (hs : a.eval s = v) (hx : a.eval x = .slice (some ⟨W.heap.size, 0, none⟩) 1 1) (hl : out.length ≤ 1000000)
  (K : ∀ v1 w1, Qt w0 w1 l i v1 (out ++ [c]) → wpList P ops Q rest (a.put o.dst v1) w1) : wpList P ops Q (o :: rest) a (W.alloc (.cells #[.int .u8 z] 5)) := by
 subst hz
 exact qapp hgd s x ho ht hinfo c h hs hx hl K
theorem strOfZs (l : List UInt8) : strOfNums (zs l) = bs l := by
 unfold strOfNums zs bs
 simp
 induction l with
 | nil => rfl
 | cons c r ih => simp only [List.map_cons, ih]; simp
theorem cv_any {base : Nat} {ok : Nat → Prop} {W : World} {v : Value} {out : List UInt8} (h : Kd.R (Kd.int .u8) 5 W base ok v (zs out)) : (convert 97 9 v).run Tryz.prog W = .ok (.string (bs out)) W := by
 obtain ⟨A, c, rfl, _, hr⟩ := Kd.R_reads h
 rw [← strOfZs]
 exact Kd.C_string Tryz.underlying97 Tryz.underlying5 Tryz.underlying9 hr
set_option maxHeartbeats 8000000 in
set_option maxRecDepth 100000 in
theorem quoted_main (l : List UInt8) (hl : l.length ≤ 1000000) (i : Nat) (c0 : UInt8) (r0 : List UInt8) (hA : At l i (c0 :: r0)) (h34 : c0.toNat = 34) (w : World) (hV : ∀ w', Below w.heap.size w w' → LaidV8 w') :
  Calls Tryz.prog 51 #[.agg #[.string (bs l), .int .i64 i]] w fun e w' => e = .returned (tkV (quotV (c0 :: r0))) ∧ Below w.heap.size w w' := by
 have hsz := bs_size l
 have hil := hA.le
 have hlt0 := hA.lt
 have hb0 := hA.byte
 have hz0 : ∀ h : i < (bs l).size, ((bs l)[i]'h).toNat = 34 := fun h => by
  have h1 := hb0
  unfold bt at h1
  rw [dif_pos (by simpa using h)] at h1
  simp only [Int.toNat_natCast] at h1
  omega
 have t1 : (0 : Int) ≤ (i : Int) := by omega
 have t2 : (i : Int) < (l.length : Int) := by omega
 have HA := Aside0.mk hA
 have HLV := Aside0.mk hV
 have HQ := Aside0.mk (Qt.new w l i)
 have x0 := HQ.out.r.c0
 have x1 := HQ.out.r.c1
 have HA1 := Aside0.mk hA.next
 have hlen := hA.len
 obtain ⟨n, hn⟩ : ∃ n, (c0 :: r0).length = n := ⟨_, rfl⟩
 have HVQ : Aside0 (quotV (c0 :: r0) = quotT n (quotR r0 [])) := ⟨by show (if c0.toNat = 34 then quotT (c0 :: r0).length (quotR r0 []) else none) = _; rw [if_pos h34, hn]⟩
 rw [HVQ.out]
 rw [hn] at hlen
 have HN := Aside0.mk hlen
 clear hA hV hb0 hn hlen h34
 go_enter Tryz.func51, Tryz.ntmps51
 go_wp2_with fail
 skip
 go_loopg [4, 5] r0.length (fun q v4 v5 wx => ∃ (j : Nat) (r out : List UInt8), v5 = .int .i64 (j : Int) ∧ q = r.length ∧ j ≤ l.length ∧ out.length ≤ j ∧ i < j ∧ Aside0 (At l j r) ∧ Aside0 (quotR r out = quotR r0 []) ∧ Aside0 (Qt w wx l i v4 out))
 case atStart => exact ⟨i + 1, r0, [], by go_num, rfl, HA1.out.le, by simp, by omega, HA1, ⟨rfl⟩, HQ⟩
 case round =>
  clear HQ x0 x1
  obtain ⟨j, r, out, rfl, hq, hj, ho, hij, HJ, HR, HQ⟩ := hrel
  have HQQ := Aside0.mk hq
  clear hq
  have x0 := HQ.out.r.c0
  have x1 := HQ.out.r.c1
  have ho2 : out.length ≤ 1000000 := by omega
  cases r with
  | nil =>
   have hjl := HJ.out.nil
   have t3 : ((j : Int) < (l.length : Int)) = False := eq_false (by omega)
   have HV : Aside0 (quotT n (quotR r0 []) = none) := ⟨by rw [← HR.out]; rfl⟩
   have k0 := HQ.out.t.c0
   have k1 := HQ.out.t.c1
   have k2 := HQ.out.t.c2
   have f0 := HQ.out.t.f0 0
   have f1 := HQ.out.t.f0 1
   have f2 := HQ.out.t.f0 2
   clear hjl
   go_wp2_with fail
   refine bodyPost_ret (results_list (rs := [.cell 2 41, .tmp 3]) rfl (by simp) (.cell (w.heap.size + 1) 41 _ (0, 0) _ rfl (HQ.out.t.set3 (.int .i64 0) (.int .i64 0) ⟨#[]⟩) rfl rfl rfl (.tmp .nil))) rfl ?_
   rw [HV.out]
   exact ⟨by first | rfl | simp [tkV, tok0], HQ.out.t.bel3 _ _ _⟩
  | cons c r =>
   have hlt := HJ.out.lt
   have hbhz := HJ.out.byte
   obtain ⟨z, hzz⟩ : ∃ z, c.toNat = z := ⟨_, rfl⟩
   have HZ := Aside0.mk hzz
   rw [hzz] at hbhz
   have hz : ∀ h : j < (bs l).size, ((bs l)[j]'h).toNat = z := fun h => by
    have h1 := hbhz
    unfold bt at h1
    rw [dif_pos (by simpa using h)] at h1
    simp only [Int.toNat_natCast] at h1
    omega
   have t3 : (j : Int) < (l.length : Int) := by omega
   have t4 : (0 : Int) ≤ (j : Int) := by omega
   clear hbhz hlt hzz
   by_cases z34 : z = 34
   ·have e34 : ((z : Int) == 34) = true := by rw [beq_iff_eq]; omega
    have HV0 : Aside0 (quotR r0 [] = some (out, r)) := ⟨by rw [← HR.out, quotR_cons]; rw [if_pos (by rw [HZ.out]; exact z34)]⟩
    clear z34
    obtain ⟨bv, hbv⟩ : ∃ b, Lib.validD out = b := ⟨_, rfl⟩
    have HBV := Aside0.mk hbv
    clear hbv
    cases bv
    ·have HV : Aside0 (quotT n (quotR r0 []) = none) := ⟨by rw [HV0.out]; show (if Lib.validD out = true then _ else none) = none; rw [HBV.out]; rfl⟩
     go_wp2_with fail
     refine (valid_any' HQ.out ho2 (HLV.out _ HQ.out.r.bel)).mono ?_
     rw [HBV.out]
     rintro e_ w5 ⟨rfl, hb5⟩
     have HQ5 := Aside0.mk (HQ.out.below hb5)
     clear hb5 HQ x0 x1
     have HQ := HQ5
     have k0 := HQ.out.t.c0
     have k1 := HQ.out.t.c1
     have k2 := HQ.out.t.c2
     have f0 := HQ.out.t.f0 0
     have f1 := HQ.out.t.f0 1
     have f2 := HQ.out.t.f0 2
     go_wp2_with fail
     refine bodyPost_ret (results_list (rs := [.cell 2 41, .tmp 3]) rfl (by simp) (.cell (w.heap.size + 1) 41 _ (0, 0) _ rfl (HQ.out.t.set3 (.int .i64 0) (.int .i64 0) ⟨#[]⟩) rfl rfl rfl (.tmp .nil))) rfl ?_
     rw [HV.out]
     exact ⟨by first | rfl | simp [tkV, tok0], HQ.out.t.bel3 _ _ _⟩
    ·have hlen2 := HJ.out.len
     have HV : Aside0 (quotT n (quotR r0 []) = some (4, out, j + 1 - i)) := ⟨by rw [HV0.out]; show (if Lib.validD out = true then _ else none) = _; rw [HBV.out, if_pos rfl]; have h1 := HN.out; have h2 := HJ.out.len; simp at h2; congr 3; omega⟩
     skip
     go_wp2_with fail
     refine (valid_any' HQ.out ho2 (HLV.out _ HQ.out.r.bel)).mono ?_
     rw [HBV.out]
     rintro e_ w5 ⟨rfl, hb5⟩
     have HQ5 := Aside0.mk (HQ.out.below hb5)
     clear hb5 HQ x0 x1
     have HQ := HQ5
     have x0 := HQ.out.r.c0
     have x1 := HQ.out.r.c1
     have cv := cv_any (HQ.out.below (Below.refl _ _).drew).row
     have k0 := HQ.out.t.c0
     have k1 := HQ.out.t.c1
     have k2 := HQ.out.t.c2
     have f0 := HQ.out.t.f0 0
     have f1 := HQ.out.t.f0 1
     have f2 := HQ.out.t.f0 2
     go_wp2_with fail
     have hji : ((j : Int) + 1 - (i : Int)) = ((j + 1 - i : Nat) : Int) := by omega
     go_region
     go_wp2_with fail
     refine bodyPost_ret (results_list (rs := [.cell 2 41, .tmp 3]) rfl (by simp) (.cell (w.heap.size + 1) 41 _ (0, 0) _ rfl (HQ.out.t.set3 (.int .i64 4) (.int .i64 0) (bs out)) rfl rfl rfl (.tmp .nil))) rfl ?_
     rw [HV.out]
     exact ⟨by first | rfl | (simp [tkV]; done) | (simp [tkV]; omega) | (show _ = Ending.returned (.tuple #[_, .int .i64 ((j + 1 - i : Nat) : Int)]); rw [← hji]; rfl), (HQ.out.t.bel3 _ _ _).drew⟩
   have n34 : ((z : Int) == 34) = false := by rw [beq_eq_false_iff_ne]; omega
   by_cases z10 : z = 10
   ·have e10 : ((z : Int) == 10) = true := by rw [beq_iff_eq]; omega
    have HV : Aside0 (quotT n (quotR r0 []) = none) := ⟨by rw [← HR.out, quotR_cons]; rw [if_neg (by rw [HZ.out]; exact z34), if_pos (by rw [HZ.out]; exact z10)]; rfl⟩
    have k0 := HQ.out.t.c0
    have k1 := HQ.out.t.c1
    have k2 := HQ.out.t.c2
    have f0 := HQ.out.t.f0 0
    have f1 := HQ.out.t.f0 1
    have f2 := HQ.out.t.f0 2
    clear z34 z10
    go_wp2_with fail
    refine bodyPost_ret (results_list (rs := [.cell 2 41, .tmp 3]) rfl (by simp) (.cell (w.heap.size + 1) 41 _ (0, 0) _ rfl (HQ.out.t.set3 (.int .i64 0) (.int .i64 0) ⟨#[]⟩) rfl rfl rfl (.tmp .nil))) rfl ?_
    rw [HV.out]
    exact ⟨by first | rfl | simp [tkV, tok0], HQ.out.t.bel3 _ _ _⟩
   have n10 : ((z : Int) == 10) = false := by rw [beq_eq_false_iff_ne]; omega
   by_cases z92 : z = 92
   ·have e92 : ((z : Int) == 92) = true := by rw [beq_iff_eq]; omega
    cases r with
    | nil =>
     have hjl := HJ.out.next.nil
     have HV : Aside0 (quotT n (quotR r0 []) = none) := ⟨by rw [← HR.out, quotR_cons]; rw [if_neg (by rw [HZ.out]; exact z34), if_neg (by rw [HZ.out]; exact z10), if_pos (by rw [HZ.out]; exact z92)]; rfl⟩
     have t5 : ((j : Int) + 1 == (l.length : Int)) = true := by rw [beq_iff_eq]; omega
     have k0 := HQ.out.t.c0
     have k1 := HQ.out.t.c1
     have k2 := HQ.out.t.c2
     have f0 := HQ.out.t.f0 0
     have f1 := HQ.out.t.f0 1
     have f2 := HQ.out.t.f0 2
     clear z34 z10 z92 hjl
     go_wp2_with fail
     refine bodyPost_ret (results_list (rs := [.cell 2 41, .tmp 3]) rfl (by simp) (.cell (w.heap.size + 1) 41 _ (0, 0) _ rfl (HQ.out.t.set3 (.int .i64 0) (.int .i64 0) ⟨#[]⟩) rfl rfl rfl (.tmp .nil))) rfl ?_
     rw [HV.out]
     exact ⟨by first | rfl | simp [tkV, tok0], HQ.out.t.bel3 _ _ _⟩
    | cons d r2 =>
     have hlt1 := HJ.out.next.lt
     have hbhz1 := HJ.out.next.byte
     obtain ⟨z1, hzz1⟩ : ∃ z, d.toNat = z := ⟨_, rfl⟩
     have HZ1 := Aside0.mk hzz1
     rw [hzz1] at hbhz1
     have hz1 : ∀ h : j + 1 < (bs l).size, ((bs l)[j + 1]'h).toNat = z1 := fun h => by
      have h1 := hbhz1
      unfold bt at h1
      rw [dif_pos (by simpa using h)] at h1
      simp only [Int.toNat_natCast] at h1
      omega
     have t5 : ((j : Int) + 1 == (l.length : Int)) = false := by rw [beq_eq_false_iff_ne]; omega
     have t6 : (j : Int) + 1 < (l.length : Int) := by omega
     have t7 : (0 : Int) ≤ (j : Int) + 1 := by omega
     have t8 : ((j : Int) + 1).toNat = j + 1 := by omega
     have hz256 : z1 < 256 := by rw [← hzz1]; exact d.toNat_lt
     have HRR : Aside0 (quotR r0 [] = if z1 = 34 ∨ z1 = 92 then quotR r2 (out ++ [d]) else if z1 = 110 then quotR r2 (out ++ [10]) else none) := ⟨by rw [← HR.out, quotR_cons, if_neg (by rw [HZ.out]; exact z34), if_neg (by rw [HZ.out]; exact z10), if_pos (by rw [HZ.out]; exact z92)]; show (if d.toNat = 34 ∨ d.toNat = 92 then _ else if d.toNat = 110 then _ else none) = _; rw [HZ1.out]⟩
     obtain ⟨iv, hiv⟩ : ∃ iv, Lib.indexByte [34, 92, 110] z1.toUInt8 = iv := ⟨_, rfl⟩
     have hv : decide (0 ≤ iv) = decide (z1 = 34 ∨ z1 = 92 ∨ z1 = 110) := by
      rw [← hiv]
      have h : ((List.range 256).all fun z => decide (0 ≤ Lib.indexByte [34, 92, 110] z.toUInt8) == decide (z = 34 ∨ z = 92 ∨ z = 110)) = true := by decide +kernel
      exact beq_iff_eq.1 (List.all_eq_true.1 h z1 (List.mem_range.2 hz256))
     have HIX : Aside0 (∀ w, Calls Tryz.prog 47 #[.string ⟨#[34, 92, 110]⟩, .int .u8 z1] w fun e w' => e = .returned (.int .i64 iv) ∧ w = w') := ⟨fun w => (Any.strings_IndexByte Tryz.lays137 ⟨#[34, 92, 110]⟩ _ w).mono fun e w' h => ⟨by rw [h.1, ← hiv]; simp, h.2.symm⟩⟩
     have HJ2 := Aside0.mk HJ.out.next.next
     clear hbhz1 hlt1 hzz1 hiv z34 z10 z92 HR
     by_cases hok : z1 = 34 ∨ z1 = 92 ∨ z1 = 110
     ·have hiv0 : (iv < 0) = False := eq_false (by have := of_decide_eq_true (hv.trans (decide_eq_true hok)); omega)
      by_cases z110 : z1 = 110
      ·have e110 : ((z1 : Int) == 110) = true := by rw [beq_iff_eq]; omega
       have HR2 : Aside0 (quotR r2 (out ++ [10]) = quotR r0 []) := ⟨by rw [HRR.out, if_neg (by omega), if_pos z110]⟩
       clear z110 hok hv HRR
       go_wp2_with (first | (go_at_call 47; refine (HIX.out _).mono ?_; rintro e_ w' ⟨rfl, rfl⟩) | ((with_reducible refine gate_builtin (b := .append) (xs := #[.tmp 70, .tmp 72]) rfl ?_); at_builtin; refine qapp' rfl (.tmp 70) (.tmp 72) rfl Tryz.underlying97 info5 10 10 rfl HQ.out rfl rfl (by omega) ?_; intro v_ w_ hs_))
       go_roundg r2.length
       case measure => have := HQQ.out; simp at this; omega
       case rel => exact ⟨j + 1 + 1, r2, out ++ [10], by go_num, rfl, HJ2.out.le, by simp; omega, by omega, HJ2, HR2, ⟨hs_⟩⟩
      ·have e110 : ((z1 : Int) == 110) = false := by rw [beq_eq_false_iff_ne]; omega
       have HR2 : Aside0 (quotR r2 (out ++ [d]) = quotR r0 []) := ⟨by rw [HRR.out, if_pos (by omega)]⟩
       have hdz : ((d.toNat : Nat) : Int) = (z1 : Int) := by rw [HZ1.out]
       have HDZ := Aside0.mk hdz
       clear z110 hok hv HRR hdz
       go_wp2_with (first | (go_at_call 47; refine (HIX.out _).mono ?_; rintro e_ w' ⟨rfl, rfl⟩) | ((with_reducible refine gate_builtin (b := .append) (xs := #[.tmp 70, .tmp 72]) rfl ?_); at_builtin; refine qapp' rfl (.tmp 70) (.tmp 72) rfl Tryz.underlying97 info5 d (z1 : Int) HDZ.out HQ.out rfl rfl (by omega) ?_; intro v_ w_ hs_))
       go_roundg r2.length
       case measure => have := HQQ.out; simp at this; omega
       case rel => exact ⟨j + 1 + 1, r2, out ++ [d], by go_num, rfl, HJ2.out.le, by simp; omega, by omega, HJ2, HR2, ⟨hs_⟩⟩
     ·have hiv0 : iv < 0 := by have := of_decide_eq_false (hv.trans (decide_eq_false hok)); omega
      have HV : Aside0 (quotT n (quotR r0 []) = none) := ⟨by rw [HRR.out, if_neg (by omega), if_neg (by omega)]; rfl⟩
      clear hok hv HRR
      have k0 := HQ.out.t.c0
      have k1 := HQ.out.t.c1
      have k2 := HQ.out.t.c2
      have f0 := HQ.out.t.f0 0
      have f1 := HQ.out.t.f0 1
      have f2 := HQ.out.t.f0 2
      go_wp2_with (go_at_call 47; refine (HIX.out _).mono ?_; rintro e_ w' ⟨rfl, rfl⟩)
      refine bodyPost_ret (results_list (rs := [.cell 2 41, .tmp 3]) rfl (by simp) (.cell (w.heap.size + 1) 41 _ (0, 0) _ rfl (HQ.out.t.set3 (.int .i64 0) (.int .i64 0) ⟨#[]⟩) rfl rfl rfl (.tmp .nil))) rfl ?_
      rw [HV.out]
      exact ⟨by first | rfl | simp [tkV, tok0], HQ.out.t.bel3 _ _ _⟩
   have n92 : ((z : Int) == 92) = false := by rw [beq_eq_false_iff_ne]; omega
   have HR2 : Aside0 (quotR r (out ++ [c]) = quotR r0 []) := ⟨by rw [← HR.out, quotR_cons, if_neg (by rw [HZ.out]; exact z34), if_neg (by rw [HZ.out]; exact z10), if_neg (by rw [HZ.out]; exact z92)]⟩
   have hdz : ((c.toNat : Nat) : Int) = (z : Int) := by rw [HZ.out]
   have HDZ := Aside0.mk hdz
   have HJ2 := Aside0.mk HJ.out.next
   clear z34 z10 z92 HR hdz
   go_wp2_with (first | ((with_reducible refine gate_builtin (b := .append) (xs := #[.tmp 70, .tmp 72]) rfl ?_); at_builtin; refine qapp' rfl (.tmp 70) (.tmp 72) rfl Tryz.underlying97 info5 c (z : Int) HDZ.out HQ.out rfl rfl (by omega) ?_; intro v_ w_ hs_))
   go_roundg r.length
   case measure => have := HQQ.out; simp at this; omega
   case rel => exact ⟨j + 1, r, out ++ [c], by go_num, rfl, HJ2.out.le, by simp; omega, by omega, HJ2, HR2, ⟨hs_⟩⟩
set_option maxHeartbeats 1000000 in
set_option maxRecDepth 100000 in
theorem quoted_none (l : List UInt8) (hl : l.length ≤ 1000000) (i : Nat) (c : UInt8) (r : List UInt8) (hA : At l i (c :: r)) (h34 : c.toNat ≠ 34) (w : World) :
  Calls Tryz.prog 51 #[.agg #[.string (bs l), .int .i64 i]] w fun e w' => e = .returned (tkV (quotV (c :: r))) ∧ Below w.heap.size w w' := by
 have hsz := bs_size l
 have hlt0 := hA.lt
 have hbhz := hA.byte
 have HV : Aside0 (quotV (c :: r) = none) := ⟨if_neg h34⟩
 obtain ⟨z, hzz⟩ : ∃ z, c.toNat = z := ⟨_, rfl⟩
 rw [hzz] at hbhz h34
 have hz : ∀ h : i < (bs l).size, ((bs l)[i]'h).toNat = z := fun h => by
  have h1 := hbhz
  unfold bt at h1
  rw [dif_pos (by simpa using h)] at h1
  simp only [Int.toNat_natCast] at h1
  omega
 have e34 : ((z : Int) != 34) = true := by rw [bne_iff_ne]; omega
 have t1 : (0 : Int) ≤ (i : Int) := by omega
 have t2 : (i : Int) < (l.length : Int) := by omega
 have HQ := Aside0.mk (Qt.new w l i)
 have x0 := HQ.out.r.c0
 have x1 := HQ.out.r.c1
 clear hA hbhz hlt0 hzz h34
 go_enter Tryz.func51, Tryz.ntmps51
 go_wp2_with fail
 refine bodyPost_ret (results_list (rs := [.cell 2 41, .tmp 3]) rfl (by simp) (.cell (w.heap.size + 1) 41 _ (0, 0) _ rfl HQ.out.t.blk rfl rfl rfl (.tmp .nil))) rfl ?_
 rw [HV.out]
 exact ⟨by first | rfl | simp [tkV, tok0], HQ.out.t.bel⟩
theorem quoted_any (l : List UInt8) (hl : l.length ≤ 1000000) (i : Nat) (c : UInt8) (r : List UInt8) (hA : At l i (c :: r)) (w : World) (hV : ∀ w', Below w.heap.size w w' → LaidV8 w') :
  Calls Tryz.prog 51 #[.agg #[.string (bs l), .int .i64 i]] w fun e w' => e = .returned (tkV (quotV (c :: r))) ∧ Below w.heap.size w w' := by
 by_cases h34 : c.toNat = 34
 ·exact quoted_main l hl i c r hA h34 w hV
 ·exact quoted_none l hl i c r hA h34 w
end Go.Proofs.YtjleceekccehoaaGreatDoor.Pr
end
