/- Texts of this session, cut down to what one claim needs and joined: LexP3, LexP4, LexRl, PrSoundingsref08Same, LexParts0, LexParts2. -/
import Derived.Test.YtjleceekccehoaaGreatDoorVGJ20
import Derived.Test.YtjleceekccehoaaGreatDoorVLexRt
import Derived.Test.YtjleceekccehoaaGreatDoorVGJ0
import Derived.Test.YtjleceekccehoaaGreatDoorVGJ21
section
set_option linter.unusedVariables false
set_option linter.unusedSimpArgs false
namespace Go.Proofs.YtjleceekccehoaaGreatDoor.Pr
open Go.RowKit

theorem lexS_nil (i : Nat) : lexS i [] = .ok [] := rfl
theorem run_all (p : Nat → Bool) : ∀ (u Z : List UInt8), (∀ c ∈ u, p c.toNat = true) → run p (u ++ Z) = u.length + run p Z := by
 intro u
 induction u with
 | nil => intro Z _; simp
 | cons c r ih =>
  intro Z h
  rw [List.cons_append, run, if_pos (h c List.mem_cons_self), ih Z (fun d hd => h d (List.mem_cons_of_mem _ hd))]
  simp; omega
/-- What a run passes by, and what stops it. -/
theorem run_split (p : Nat → Bool) : ∀ (s : List UInt8), ∃ u v, s = u ++ v ∧ u.length = run p s ∧ (∀ c ∈ u, p c.toNat = true) ∧ (v = [] ∨ ∃ c w, v = c :: w ∧ p c.toNat = false) := by
 intro s
 induction s with
 | nil => exact ⟨[], [], rfl, rfl, (fun c hc => by cases hc), Or.inl rfl⟩
 | cons c r ih =>
  by_cases hc : p c.toNat = true
  ·obtain ⟨u, v, h1, h2, h3, h4⟩ := ih
   refine ⟨c :: u, v, by rw [h1]; rfl, by rw [run, if_pos hc, List.length_cons, h2], fun d hd => ?_, h4⟩
   rcases List.mem_cons.1 hd with rfl | hd
   ·exact hc
   ·exact h3 d hd
  ·exact ⟨[], c :: r, rfl, by rw [run, if_neg hc]; rfl, (fun d hd => by cases hd), Or.inr ⟨c, r, rfl, Bool.eq_false_iff.2 hc⟩⟩
theorem blankV_run {s : List UInt8} (h : run isBlk s ≠ 0) : blankV s = run isBlk s := by unfold blankV; rw [if_neg h]
theorem blankV_cons {c : UInt8} {r : List UInt8} (h : isBlk c.toNat = false) : blankV (c :: r) = if c.toNat = 35 then run (fun z => z != 10) (c :: r) else 0 := by
 unfold blankV
 rw [if_pos (by rw [run, if_neg (by rw [h]; simp)])]
theorem blankV_zero {c : UInt8} {r : List UInt8} : blankV (c :: r) = 0 ↔ isBlk c.toNat = false ∧ c.toNat ≠ 35 := by
 constructor
 ·intro h
  cases hb : isBlk c.toNat with
  | true =>
   have h1 : run isBlk (c :: r) ≠ 0 := by rw [run, if_pos hb]; omega
   rw [blankV_run h1] at h; exact absurd h h1
  | false =>
   refine ⟨rfl, fun h35 => ?_⟩
   rw [blankV_cons hb, if_pos h35, run, if_pos (by rw [h35]; decide)] at h
   omega
 ·rintro ⟨h1, h2⟩
  rw [blankV_cons h1, if_neg h2]
/-- u is passed by where Z stands behind it. -/
def Pass (u Z : List UInt8) : Prop := (∀ c ∈ u, isBlk c.toNat = true) ∨ ((∃ c r, u = c :: r ∧ c.toNat = 35) ∧ (∀ c ∈ u, (c.toNat != 10) = true) ∧ (Z = [] ∨ ∃ w, Z = 10 :: w))
theorem lexS_blank' (i : Nat) (s : List UInt8) (hb : blankV s ≠ 0) : lexS i s = lexS (i + blankV s) (s.drop (blankV s)) := by
 cases s with
 | nil => exact absurd rfl hb
 | cons c r => exact lexS_blank i c r hb
theorem pass_by (p : Nat) (u Z : List UInt8) (h : Pass u Z) : lexS p (u ++ Z) = lexS (p + u.length) Z := by
 rcases h with h | ⟨⟨c, r, rfl, h35⟩, h10, hz⟩
 ·cases u with
  | nil => rfl
  | cons c r =>
   have hr := run_all isBlk (c :: r) Z h
   have hne : run isBlk (c :: r ++ Z) ≠ 0 := by rw [hr]; simp
   rw [lexS_blank' p _ (by rw [blankV_run hne]; exact hne), blankV_run hne, hr, ← List.drop_drop, List.drop_left' rfl]
   by_cases hk : run isBlk Z = 0
   ·rw [hk]; rfl
   ·rw [lexS_blank' (p + (c :: r).length) Z (by rw [blankV_run hk]; exact hk), blankV_run hk, Nat.add_assoc]
 ·have hb : isBlk c.toNat = false := by rw [h35]; decide
  have hr : run (fun z => z != 10) (c :: r ++ Z) = (c :: r).length := by
   rw [run_all _ _ _ h10]
   rcases hz with rfl | ⟨w, rfl⟩
   ·rfl
   ·show _ + run (fun z => z != 10) (10 :: w) = _
    rw [run, if_neg (by decide)]
    omega
  have hv : blankV (c :: r ++ Z) = (c :: r).length := by
   rw [List.cons_append, blankV_cons hb, if_pos h35]
   exact hr
  rw [lexS_blank' p _ (by rw [hv]; simp), hv, List.drop_left' rfl]
theorem step_cases {s : List UInt8} (hs : s ≠ []) {i : Nat} {X : List Tok} (h : lexS i s = .ok X) :
  (∃ u v, s = u ++ v ∧ 0 < u.length ∧ Pass u v ∧ lexS (i + u.length) v = .ok X) ∨
  (∃ u v k t X', s = u ++ v ∧ 0 < u.length ∧ tokAt (u ++ v) = some (k, t, u.length) ∧ blankV (u ++ v) = 0 ∧ X = ⟨(k : Nat), (i : Nat), bs t⟩ :: X' ∧ lexS (i + u.length) v = .ok X') := by
 cases s with
 | nil => exact absurd rfl hs
 | cons c r =>
  by_cases hb : blankV (c :: r) = 0
  ·right
   cases ht : tokAt (c :: r) with
   | none => rw [lexS_none i c r hb ht] at h; cases h
   | some x =>
    obtain ⟨k, t, n⟩ := x
    have hn := tok_pos ht
    have hl := tok_le ht
    rw [lexS_some i c r hb k t n ht] at h
    cases hr : lexS (i + n) ((c :: r).drop n) with
    | error e => rw [hr] at h; cases h
    | ok X' =>
     rw [hr] at h
     have hX : [(⟨(k : Nat), (i : Nat), bs t⟩ : Tok)] ++ X' = X := by injection h
     have e : (c :: r).take n ++ (c :: r).drop n = c :: r := List.take_append_drop _ _
     have hlen : ((c :: r).take n).length = n := by rw [List.length_take]; omega
     exact ⟨(c :: r).take n, (c :: r).drop n, k, t, X', e.symm, by omega, by rw [e, hlen]; exact ht, by rw [e]; exact hb, hX.symm, by rw [hlen]; exact hr⟩
  ·left
   rw [lexS_blank i c r hb] at h
   cases hk : isBlk c.toNat with
   | true =>
    have hne : run isBlk (c :: r) ≠ 0 := by rw [run, if_pos hk]; omega
    obtain ⟨u, v, h1, h2, h3, h4⟩ := run_split isBlk (c :: r)
    rw [blankV_run hne, ← h2] at h
    refine ⟨u, v, h1, by omega, Or.inl h3, ?_⟩
    rw [h1, List.drop_left' rfl] at h
    exact h
   | false =>
    have h35 : c.toNat = 35 := by
     rcases Nat.decEq c.toNat 35 with h | h
     ·exact absurd (blankV_zero.2 ⟨hk, h⟩) hb
     ·exact h
    obtain ⟨u, v, h1, h2, h3, h4⟩ := run_split (fun z => z != 10) (c :: r)
    have hv : blankV (c :: r) = u.length := by rw [blankV_cons hk, if_pos h35, h2]
    rw [hv] at h hb
    refine ⟨u, v, h1, by omega, Or.inr ⟨?_, h3, ?_⟩, ?_⟩
    ·cases u with
     | nil => simp at hb
     | cons d u2 => exact ⟨d, u2, rfl, by injection h1 with h1 _; rw [← h1]; exact h35⟩
    ·rcases h4 with rfl | ⟨d, w, rfl, hd⟩
     ·exact Or.inl rfl
     ·right
      have : d.toNat = 10 := by simpa using hd
      exact ⟨w, by rw [show d = 10 from UInt8.toNat_inj.1 (by rw [this]; rfl)]⟩
    ·rw [h1, List.drop_left' rfl] at h
     exact h
end Go.Proofs.YtjleceekccehoaaGreatDoor.Pr
end

section
set_option linter.unusedVariables false
set_option linter.unusedSimpArgs false
namespace Go.Proofs.YtjleceekccehoaaGreatDoor.Pr
open Go.RowKit

theorem pass_one (p : Nat) (c : UInt8) (Z : List UInt8) (hc : isBlk c.toNat = true) : lexS p (c :: Z) = lexS (p + 1) Z :=
 pass_by p [c] Z (Or.inl (fun d hd => by rw [List.mem_singleton.1 hd]; exact hc))
/-- Tokens stand behind where the text begins, and are no more than it has bytes. -/
theorem lexS_ge : ∀ (n : Nat) (v : List UInt8) (f : Nat) (L : List Tok), v.length ≤ n → lexS f v = .ok L → (∀ x ∈ L, ∃ a : Nat, x.f1 = (a : Int) ∧ f ≤ a ∧ a ≤ f + v.length) ∧ L.length ≤ v.length := by
 intro n
 induction n with
 | zero =>
  intro v f L hn h
  have : v = [] := List.length_eq_zero_iff.1 (by omega)
  subst this
  have hX : L = [] := by rw [lexS_nil] at h; injection h with h; exact h.symm
  subst hX
  exact ⟨(fun x hx => by cases hx), Nat.le_refl _⟩
 | succ n ih =>
  intro v f L hn h
  by_cases hs : v = []
  ·subst hs
   have hX : L = [] := by rw [lexS_nil] at h; injection h with h; exact h.symm
   subst hX
   exact ⟨(fun x hx => by cases hx), Nat.le_refl _⟩
  ·rcases step_cases hs h with ⟨u, v, rfl, hu, hp, hr⟩ | ⟨u, v, k, t, X', rfl, hu, ht, hb, rfl, hr⟩
   ·rw [List.length_append] at hn ⊢
    obtain ⟨h1, h2⟩ := ih v _ L (by omega) hr
    exact ⟨fun x hx => by obtain ⟨a, e, ha, hb⟩ := h1 x hx; exact ⟨a, e, by omega, by omega⟩, by omega⟩
   ·rw [List.length_append] at hn ⊢
    obtain ⟨h1, h2⟩ := ih v _ X' (by omega) hr
    refine ⟨fun x hx => ?_, by simp; omega⟩
    rcases List.mem_cons.1 hx with rfl | hx
    ·exact ⟨f, rfl, Nat.le_refl _, by omega⟩
    ·obtain ⟨a, e, ha, hb⟩ := h1 x hx; exact ⟨a, e, by omega, by omega⟩
end Go.Proofs.YtjleceekccehoaaGreatDoor.Pr
end

section
set_option linter.unusedVariables false
set_option linter.unusedSimpArgs false
namespace Go.Proofs.YtjleceekccehoaaGreatDoor.Pr
open Go.RowKit Go.Proofs.YtjleceekccehoaaGreatDoorW.PrintWords Go.Proofs.YtjleceekccehoaaGreatDoorW.PrintLast Go.Proofs.YtjleceekccehoaaGreatDoorW.PrintMore

/-- The reference's own row of tokens. -/
structure LyB (w0 w : World) (v : Value) (out : List Tok) : Prop where
 row : Kd.R k41 41 w w0.heap.size (fun _ => True) v out
 bel : Below w0.heap.size w0 w
section
variable {w0 W W' : World} {v : Value} {out : List Tok}
theorem LyB.new (w0 : World) : LyB w0 w0 (.slice none 0 0) [] := ⟨Kd.R_nil _ _ _ _ _, Below.refl _ _⟩
theorem LyB.below (h : LyB w0 W v out) (hb : Below W.heap.size W W') : LyB w0 W' v out := ⟨Kd.R_below h.row hb, below_step h.bel hb⟩
variable {P : Program} {ops : Array Oper} {o : Oper} {a : Act} {Q : Exit → Act → World → Prop} {rest : List Oper}
theorem lyapp (hgd : o.guard = none) (s x : Operand) (ho : o.op = .call { callee := .builtin .append, args := #[s, x], argTypes := #[29, 29] })
  (ht : P.underlying 29 = some (.slice 41)) (hinfo : (P.info? 41).map (fun i => (i.zero, i.size, i.bytes)) = some (some (.agg #[.int .i64 0, .int .i64 0, .string ⟨#[]⟩]), 3, 32))
  (y : Tok) (h : LyB w0 W v out) (hs : a.eval s = v) (m : Nat) (hm : W.heap.size = m) (hx : a.eval x = .slice (some ⟨m, 0, none⟩) 1 1) (hl : out.length ≤ 1000000)
  (K : ∀ v1 w1, LyB w0 w1 v1 (out ++ [y]) → wpList P ops Q rest (a.put o.dst v1) w1) : wpList P ops Q (o :: rest) a (W.alloc (.cells #[.int .i64 y.f0, .int .i64 y.f1, .string y.f2] 41)) := by
 subst hm
 refine Kd.R_append k41 (w0 := w0) w0.heap.size hgd s x 29 41 (.agg #[.int .i64 0, .int .i64 0, .string ⟨#[]⟩]) 32 ho ht hinfo rfl (by decide) (by omega) v out y [.int .i64 y.f0, .int .i64 y.f1, .string y.f2] (fun _ => True) (fun _ => False) hs hx (k41_mkM _ _ _ _) (fun _ hk => hk.elim) (fun _ _ => trivial) h.row h.bel h.bel.size (by omega) ?_
 intro v1 w1 hr hb hg _
 exact K v1 w1 ⟨hr, hb⟩
end
theorem kind32 (z : Nat) (hz : z < 256) : kindV z = 32 ↔ isBlk z = true := by
 have h : ((List.range 256).all fun z => decide (kindV z = 32 ↔ isBlk z = true)) = true := by decide +kernel
 exact of_decide_eq_true (List.all_eq_true.1 h z (List.mem_range.2 hz))
theorem blank_no (c : UInt8) (r : List UInt8) (hb : isBlk c.toNat = false) (h35 : c.toNat ≠ 35) : blankV (c :: r) = 0 := by
 have h0 : run isBlk (c :: r) = 0 := by rw [run, if_neg (by rw [hb]; simp)]
 unfold blankV
 rw [if_pos h0]
 simp only
 rw [if_neg h35]
theorem blank_rem (c : UInt8) (r : List UInt8) (h35 : c.toNat = 35) : blankV (c :: r) = run (fun z => z != 10) (c :: r) := by
 have h0 : run isBlk (c :: r) = 0 := by rw [run, if_neg (by rw [h35]; decide)]
 unfold blankV
 rw [if_pos h0]
 simp only
 rw [if_pos h35]
/-- What the reference's Lex leaves behind. -/
def LexQ (w : World) (r : Except Nat (List Tok)) (e : Ending) (w' : World) : Prop :=
 match r with
 | .ok toks => ∃ v, e = .returned (.tuple #[v, .int .i64 0, .int .i64 0]) ∧ Kd.R k41 41 w' w.heap.size (fun _ => True) v toks
 | .error p => e = .returned (.tuple #[.slice none 0 0, .int .i64 5, .int .i64 p])
set_option maxHeartbeats 1000000 in
set_option maxRecDepth 100000 in
theorem rlex_long (l : List UInt8) (hl : 4000 < l.length) (w : World) : Calls Tryz.prog 19 #[.string (bs l)] w fun e w' => e = .returned (.tuple #[.slice none 0 0, .int .i64 11, .int .i64 0]) ∧ w' = w := by
 have hsz := bs_size l
 have t1 : (l.length : Int) > 4000 := by omega
 clear hl
 go_enter Tryz.func19, Tryz.ntmps19
 go_wp2_with fail
 go_ret3
 exact ⟨by first | rfl | simp, rfl⟩
set_option maxHeartbeats 8000000 in
set_option maxRecDepth 100000 in
theorem rlex_any (l : List UInt8) (hl : l.length ≤ 4000) (w : World) (hN : LaidN w) (hS : LaidS w) : Calls Tryz.prog 19 #[.string (bs l)] w fun e w' => LexQ w (lexS 0 l) e w' ∧ Below w.heap.size w w' := by
 have hsz := bs_size l
 have t1 : ((l.length : Int) > 4000) = False := eq_false (by omega)
 have HN := Aside0.mk hN
 have HS := Aside0.mk hS
 have HL := Aside0.mk hl
 have HB := Aside0.mk (LyB.new w)
 obtain ⟨R, hR⟩ : ∃ R, lexS 0 l = R := ⟨_, rfl⟩
 have HR := Aside0.mk hR
 rw [hR]
 clear hN hS hR
 go_enter Tryz.func19, Tryz.ntmps19
 go_wp2_with fail
 go_loopg [5, 6] l.length (fun q v5 v6 wx => ∃ (i : Nat) (s : List UInt8) (out : List Tok) (V5 : Value), V5 = v5 ∧ v6 = .int .i64 (i : Int) ∧ q = s.length ∧ i ≤ l.length ∧ out.length ≤ i ∧ Aside0 (At l i s) ∧ Aside0 (lexCat out (lexS i s) = R) ∧ Aside0 (LyB w wx v5 out))
 case atStart => exact ⟨0, l, [], _, rfl, by go_num, rfl, Nat.zero_le _, Nat.le_refl _, ⟨⟨Nat.zero_le _, rfl⟩⟩, ⟨by rw [lexCat_nil]; exact HR.out⟩, HB⟩
 case round =>
  clear HB
  obtain ⟨i, s, out, V5, hv5, rfl, hq, hi, ho, HA, HC, HB⟩ := hrel
  subst hv5
  have HQ := Aside0.mk hq
  clear hq
  have t2 : (0 : Int) ≤ (i : Int) := by omega
  cases s with
  | nil =>
   have hil := HA.out.nil
   have t3 : ((i : Int) < (l.length : Int)) = False := eq_false (by omega)
   have HV : Aside0 (R = .ok out) := ⟨by rw [← HC.out]; show Except.ok (out ++ []) = _; rw [List.append_nil]⟩
   clear hil
   go_wp2_with fail
   go_ret3
   rw [HV.out]
   exact ⟨⟨_, by first | rfl | simp, HB.out.row⟩, HB.out.bel⟩
  | cons c r =>
   have hlt := HA.out.lt
   have hbhz := HA.out.byte
   obtain ⟨z, hzz⟩ : ∃ z, c.toNat = z := ⟨_, rfl⟩
   have HZ := Aside0.mk hzz
   rw [hzz] at hbhz
   have hz : ∀ h : i < (bs l).size, ((bs l)[i]'h).toNat = z := fun h => by
    have h1 := hbhz
    unfold bt at h1
    rw [dif_pos (by simpa using h)] at h1
    simp only [Int.toNat_natCast] at h1
    omega
   have hzl : z < 256 := by rw [← hzz]; exact c.toNat_lt
   obtain ⟨kz, hkz⟩ : ∃ k, kindV z = k := ⟨_, rfl⟩
   have HK := Aside0.mk (fun W => kind_any z hzl kz hkz W)
   have t3 : (i : Int) < (l.length : Int) := by omega
   by_cases hbk : isBlk z = true
   ·have e32 : ((kz : Int) == 32) = true := by rw [beq_iff_eq, ← hkz, (kind32 z hzl).2 hbk]; rfl
    have HC2 : Aside0 (lexCat out (lexS (i + 1) r) = R) := ⟨by rw [← HC.out, pass_one i c r (by rw [hzz]; exact hbk)]⟩
    have HA2 := Aside0.mk HA.out.next
    have hi2 : i + 1 ≤ l.length := by omega
    clear hlt hbhz hzz hkz hbk HC
    go_wp2_with fail
    refine (HK.out _).mono ?_
    rintro e_ w_ ⟨rfl, hd_⟩
    have HB_ := Aside0.mk (HB.out.below hd_)
    clear hd_ HB
    have HB := HB_
    clear HB_
    go_wp2_with fail
    go_roundg r.length
    case measure => have := HQ.out; simp at this; omega
    case rel => exact ⟨i + 1, r, out, _, rfl, by go_num, rfl, hi2, by omega, HA2, HC2, HB⟩
   have hbk0 : isBlk z = false := Bool.eq_false_iff.2 hbk
   have e32 : ((kz : Int) == 32) = false := by rw [beq_eq_false_iff_ne]; intro h; exact hbk ((kind32 z hzl).1 (by omega))
   by_cases z35 : z = 35
   ·have e35 : ((z : Int) == 35) = true := by rw [beq_iff_eq]; omega
    have hbr := blank_rem c r (by rw [hzz]; exact z35)
    have hpos : run (fun z => z != 10) (c :: r) ≠ 0 := by rw [run, if_pos (by rw [hzz, z35]; rfl)]; omega
    have HLB : Aside0 (lexS i (c :: r) = lexS (i + run (fun z => z != 10) (c :: r)) ((c :: r).drop (run (fun z => z != 10) (c :: r)))) := ⟨by rw [lexS_blank i c r (by rw [hbr]; exact hpos), hbr]⟩
    have hile : i ≤ l.length := hi
    have HPOS := Aside0.mk hpos
    clear hlt hbhz hzz hkz hbk hbk0 z35 hbr hpos
    go_wp2_with fail
    refine (HK.out _).mono ?_
    rintro e_ w_ ⟨rfl, hd_⟩
    have HB_ := Aside0.mk (HB.out.below hd_)
    clear hd_ HB
    have HB := HB_
    clear HB_
    go_wp2_with fail
    go_loopg [6] (c :: r).length (fun q v6 wx => ∃ (j : Nat) (t : List UInt8), v6 = .int .i64 (j : Int) ∧ q = t.length ∧ j ≤ l.length ∧ i ≤ j ∧ Aside0 (At l j t) ∧ Aside0 (j + run (fun z => z != 10) t = i + run (fun z => z != 10) (c :: r)) ∧ Aside0 (LyB w wx V5 out))
    case atStart => exact ⟨i, c :: r, by go_num, rfl, hi, Nat.le_refl _, HA, ⟨rfl⟩, HB⟩
    case round =>
     clear HB
     obtain ⟨j, t, rfl, hq2, hj, hij, HJ, HR2, HB⟩ := hrel
     have HQ2 := Aside0.mk hq2
     clear hq2
     have t4 : (0 : Int) ≤ (j : Int) := by omega
     cases t with
     | nil =>
      have hjl := HJ.out.nil
      have t7 : ((j : Int) < (l.length : Int)) = False := eq_false (by omega)
      have hrun : j - i = run (fun z => z != 10) (c :: r) := by have h1 : j + 0 = i + run (fun z => z != 10) (c :: r) := HR2.out; omega
      have HDR : Aside0 ((c :: r).drop (j - i) = []) := ⟨by rw [← HA.out.eq, List.drop_drop, show i + (j - i) = j from by omega, HJ.out.eq]⟩
      have hne : j - i ≠ 0 := by have := HPOS.out; omega
      have HC2 : Aside0 (lexCat out (lexS j []) = R) := ⟨by rw [← HC.out, HLB.out, ← hrun, show i + (j - i) = j from by omega, HDR.out]⟩
      have HSZ : Aside0 (([] : List UInt8).length < (c :: r).length) := ⟨by rw [← HDR.out, List.length_drop]; simp; omega⟩
      have hoj : out.length ≤ j := by omega
      clear hrun hjl hne
      go_wp2_with fail
      go_roundg 0
      case measure => have := HQ.out; simp at this; omega
      case rel => exact ⟨j, [], out, _, rfl, by go_num, rfl, hj, hoj, HJ, HC2, HB⟩
     | cons d t =>
      have hlt1 := HJ.out.lt
      have hbhz1 := HJ.out.byte
      obtain ⟨z1, hzz1⟩ : ∃ z, d.toNat = z := ⟨_, rfl⟩
      have HZ1 := Aside0.mk hzz1
      rw [hzz1] at hbhz1
      have hz1 : ∀ h : j < (bs l).size, ((bs l)[j]'h).toNat = z1 := fun h => by
       have h1 := hbhz1
       unfold bt at h1
       rw [dif_pos (by simpa using h)] at h1
       simp only [Int.toNat_natCast] at h1
       omega
      have t7 : (j : Int) < (l.length : Int) := by omega
      have hrun0 := HR2.out
      rw [run] at hrun0
      by_cases z10 : z1 = 10
      ·have e10 : ((z1 : Int) != 10) = false := by rw [bne_eq_false_iff_eq]; omega
       rw [if_neg (by rw [hzz1, z10]; decide)] at hrun0
       have hrun : j - i = run (fun z => z != 10) (c :: r) := by omega
       have HDR : Aside0 ((c :: r).drop (j - i) = (d :: t)) := ⟨by rw [← HA.out.eq, List.drop_drop, show i + (j - i) = j from by omega, HJ.out.eq]⟩
       have hne : j - i ≠ 0 := by have := HPOS.out; omega
       have HC2 : Aside0 (lexCat out (lexS j (d :: t)) = R) := ⟨by rw [← HC.out, HLB.out, ← hrun, show i + (j - i) = j from by omega, HDR.out]⟩
       have HSZ : Aside0 ((d :: t).length < (c :: r).length) := ⟨by rw [← HDR.out, List.length_drop]; simp; omega⟩
       have hoj : out.length ≤ j := by omega
       clear hrun hrun0 hne z10 hzz1 hbhz1 hlt1
       go_wp2_with fail
       go_roundg (d :: t).length
       case measure => have := HQ.out; have := HSZ.out; omega
       case rel => exact ⟨j, d :: t, out, _, rfl, by go_num, rfl, hj, hoj, HJ, HC2, HB⟩
      ·have e10 : ((z1 : Int) != 10) = true := by rw [bne_iff_ne]; omega
       rw [if_pos (by rw [hzz1]; simpa using z10)] at hrun0
       have HR3 : Aside0 (j + 1 + run (fun z => z != 10) t = i + run (fun z => z != 10) (c :: r)) := ⟨by omega⟩
       have HJ2 := Aside0.mk HJ.out.next
       have hj2 : j + 1 ≤ l.length := by omega
       have hij2 : i ≤ j + 1 := by omega
       clear hrun0 z10 hzz1 hbhz1 hlt1 HR2
       go_wp2_with fail
       go_roundg t.length
       case measure => have := HQ2.out; simp at this; omega
       case rel => exact ⟨j + 1, t, by go_num, rfl, hj2, hij2, HJ2, HR3, HB⟩
   have e35 : ((z : Int) == 35) = false := by rw [beq_eq_false_iff_ne]; omega
   have hb0 : blankV (c :: r) = 0 := blank_no c r (by rw [hzz]; exact hbk0) (by rw [hzz]; exact z35)
   have HTK := Aside0.mk (rtoken_any l (by have := HL.out; omega) i c r HA.out)
   have hlen := HA.out.len
   cases ht : tokAt (c :: r) with
   | none =>
    have HV : Aside0 (R = .error i) := ⟨by rw [← HC.out, lexS_none i c r hb0 ht]; rfl⟩
    rw [ht] at HTK
    clear ht hb0 hlt hbhz hzz hkz hbk hbk0 z35 hlen
    go_wp2_with fail
    refine (HK.out _).mono ?_
    rintro e_ w_ ⟨rfl, hd_⟩
    have HB_ := Aside0.mk (HB.out.below hd_)
    clear hd_ HB
    have HB := HB_
    clear HB_
    go_wp2_with fail
    refine (HTK.out _ (HN.out.below HB.out.bel) (HS.out.below HB.out.bel)).mono ?_
    rintro e_ w2 ⟨⟨a_, b_, t_, rfl⟩, hb2⟩
    have HB2 := Aside0.mk (HB.out.below hb2)
    clear hb2 HB
    go_wp2_with fail
    go_ret3
    rw [HV.out]
    exact ⟨by first | rfl | (unfold LexQ; simp), by first | exact HB2.out.bel | exact below_alloc HB2.out.bel _ | exact (below_alloc HB2.out.bel _).drew⟩
   | some x =>
    obtain ⟨k, t, n⟩ := x
    have hn := tok_pos ht
    have hnl := tok_le ht
    obtain ⟨j, hj⟩ : ∃ j, i + n = j := ⟨_, rfl⟩
    have HV : Aside0 (lexCat (out ++ [⟨(k : Nat), (i : Nat), bs t⟩]) (lexS j ((c :: r).drop n)) = R) := ⟨by rw [← HC.out, lexS_some i c r hb0 k t n ht, lexCat_C, hj]⟩
    have HA2 : Aside0 (At l j ((c :: r).drop n)) := ⟨⟨by omega, by rw [← HA.out.eq, List.drop_drop, hj]⟩⟩
    have HD : Aside0 (((c :: r).drop n).length < (c :: r).length) := ⟨by rw [List.length_drop]; omega⟩
    have hj2 : j ≤ l.length := by omega
    have hl4 := HL.out
    have hoj : (out ++ [(⟨(k : Nat), (i : Nat), bs t⟩ : Tok)]).length ≤ j := by simp; omega
    have ho2 : out.length ≤ 1000000 := by omega
    have e0 : ((j : Int) == 0) = false := by rw [beq_eq_false_iff_ne]; omega
    rw [ht] at HTK
    have HTK2 : Aside0 (∀ W, LaidN W → LaidS W → Calls Tryz.prog 34 #[.string (bs l), .int .i64 i] W fun e w' => e = .returned (.tuple #[.agg #[.int .i64 k, .int .i64 i, .string (bs t)], .int .i64 j]) ∧ Below W.heap.size W w') := ⟨fun W h1 h2 => by rw [← hj]; exact HTK.out W h1 h2⟩
    obtain ⟨s2, hs2⟩ : ∃ s2, (c :: r).drop n = s2 := ⟨_, rfl⟩
    rw [hs2] at HV HA2 HD
    clear ht hb0 hlt hbhz hzz hkz hbk hbk0 z35 hlen hnl hs2 HTK hj hn
    go_wp2_with fail
    refine (HK.out _).mono ?_
    rintro e_ w_ ⟨rfl, hd_⟩
    have HB_ := Aside0.mk (HB.out.below hd_)
    clear hd_ HB
    have HB := HB_
    clear HB_
    go_wp2_with fail
    refine (HTK2.out _ (HN.out.below HB.out.bel) (HS.out.below HB.out.bel)).mono ?_
    rintro e_ w2 ⟨rfl, hb2⟩
    have HB2 := Aside0.mk (HB.out.below hb2)
    clear hb2 HB
    go_wp2_with ((with_reducible refine gate_builtin (b := .append) (xs := #[.tmp 48, .tmp 50]) rfl ?_); at_builtin; refine lyapp rfl (.tmp 48) (.tmp 50) rfl Tryz.underlying29 info41 (⟨(k : Nat), (i : Nat), bs t⟩ : Tok) (HB2.out.below (below_alloc (Below.refl _ _) _)) rfl (w2.heap.size + 1) (by simp) rfl ho2 ?_; intro v_ w_ hs_; have HB3 := Aside0.mk hs_; clear hs_)
    go_roundg s2.length
    case measure => have := HQ.out; have := HD.out; omega
    case rel => exact ⟨j, s2, out ++ [⟨(k : Nat), (i : Nat), bs t⟩], _, rfl, by go_num, rfl, hj2, hoj, HA2, HV, HB3⟩
end Go.Proofs.YtjleceekccehoaaGreatDoor.Pr
end

section
-- Written by a program of this session (wip/hook.py) out of the translation. Not trusted: Lean checks it.
namespace Go.Proofs.YtjleceekccehoaaGreatDoor.Pr
open Go.RowKit Go.Proofs.YtjleceekccehoaaGreatDoorW.PrintWords Go.Proofs.YtjleceekccehoaaGreatDoorW.PrintLast Go.Proofs.YtjleceekccehoaaGreatDoorW.PrintMore
attribute [local go_sem] max2_int min2_int max_two min_two max_three min_three max_four min_four   -- for this text's walks alone
set_option linter.unusedVariables false
set_option linter.unusedSimpArgs false

attribute [local go_sem high] eqA41
/-! ### soundingsref08_Same: function 22 -/
def soundingsref08_Same.l0 : Nat → List (S41) → List (S41) → Int → Option (Bool)
 | 0, _, _, _ => none
 | k + 1, x0, x1, x5 => if x5 < (x0.length : Int) then (if 0 ≤ x5 then (if x5 < (x1.length : Int) then (if (!(((rd_T41 x0 x5).f0) == ((rd_T41 x1 x5).f0)) || (!(((rd_T41 x0 x5).f1) == ((rd_T41 x1 x5).f1)) || (!((((rd_T41 x0 x5).f2).toList) == (((rd_T41 x1 x5).f2).toList))))) = true then (some false) else (soundingsref08_Same.l0 k x0 x1 (wrap64 (x5 + 1)))) else (none)) else (none)) else (some true)
def soundingsref08_Same.f (k : Nat) (l0 : List (S41)) (l1 : List (S41)) : Option (Bool) := if (l0.length : Int) = (l1.length : Int) then (soundingsref08_Same.l0 k l0 l1 0) else (some false)
theorem soundingsref08_Same.mono_l : ∀ k, (∀ y0 y1 y2, LeO (soundingsref08_Same.l0 k y0 y1 y2) (soundingsref08_Same.l0 (k + 1) y0 y1 y2))
 | 0 => fun _ _ _ r h => by simp [soundingsref08_Same.l0] at h
 | k + 1 => by
  have ih0 := soundingsref08_Same.mono_l k
  ·intro y0 y1 y2
   unfold soundingsref08_Same.l0
   repeat' first
   | (with_reducible exact ih0 _ _ _)
   | (with_reducible exact LeO.refl _)
   | (with_reducible exact LeO.none _)
   | (with_reducible refine LeO.ite ?_ ?_)
   | (with_reducible refine LeO.bind ?_ (fun _ => ?_))
   | exact ih0 _ _ _
   | exact LeO.none _
   | refine LeO.ite ?_ ?_
   | refine LeO.bind ?_ (fun _ => ?_)
theorem soundingsref08_Same.mono : ∀ a0 a1 k, LeO (soundingsref08_Same.f k a0 a1) (soundingsref08_Same.f (k + 1) a0 a1) := by
 intro a0 a1 k
 have ih0 := soundingsref08_Same.mono_l k
 unfold soundingsref08_Same.f
 repeat' first
   | (with_reducible exact ih0 _ _ _)
   | (with_reducible exact LeO.refl _)
   | (with_reducible exact LeO.none _)
   | (with_reducible refine LeO.ite ?_ ?_)
   | (with_reducible refine LeO.bind ?_ (fun _ => ?_))
   | exact ih0 _ _ _
   | exact LeO.none _
   | refine LeO.ite ?_ ?_
   | refine LeO.bind ?_ (fun _ => ?_)
set_option maxHeartbeats 8000000 in
set_option maxRecDepth 100000 in
theorem soundingsref08_Same.calls (k : Nat) (A0 : Option Addr) (c0 : Nat) (l0 : List (S41)) (A1 : Option Addr) (c1 : Nat) (l1 : List (S41)) (r : Bool) (w : World) (hr0 : Kd.C k41 w A0 l0.length l0) (hc0 : l0.length ≤ c0) (hr1 : Kd.C k41 w A1 l1.length l1) (hc1 : l1.length ≤ c1) (h : soundingsref08_Same.f k l0 l1 = some r) :
  Calls Tryz.prog 22 #[.slice A0 l0.length c0, .slice A1 l1.length c1] w fun e w' => e = .returned (.bool r) ∧ Drawn0 w w' := by
 have hu41 := Tryz.underlying41
 have HR0 := Aside0.mk hr0
 have HC0 := Aside0.mk hc0
 clear hr0 hc0
 have HR1 := Aside0.mk hr1
 have HC1 := Aside0.mk hc1
 clear hr1 hc1
 have H : (if (l0.length : Int) = (l1.length : Int) then (soundingsref08_Same.l0 k l0 l1 0) else (some false)) = some r := h
 clear h
 by_cases c3 : (l0.length : Int) = (l1.length : Int)
 ·rw [if_pos c3] at H
  have c3b0 : ((l0.length : Int) == (l1.length : Int)) = true := beq_iff_eq.mpr c3
  have c3b1 : ((l0.length : Int) != (l1.length : Int)) = false := bne_eq_false_iff_eq.mpr c3
  have c3b2 : (l0.length == l1.length) = true := by first | simpa using c3 | (simp at c3 ⊢; omega)
  clear c3
  have H' := Aside0.mk H
  clear H
  go_enter Tryz.func22, Tryz.ntmps22
  go_wp2
  repeat (go_quiet (fail); try go_wp2)
  go_loopg [5] k (fun kq v5 w' => ∃ (x5_1 : Int), v5 = .int .i64 x5_1 ∧ Aside0 (soundingsref08_Same.l0 kq l0 l1 x5_1 = some r) ∧ Aside0 (kq ≤ k) ∧ Drawn0 w w')
  case atStart => exact ⟨(0), (by first | rfl | (simp; done) | (simp [*]; done)), H', ⟨Nat.le_refl _⟩, by repeat (first | exact Drawn0.refl _ | apply Drawn0.step)⟩
  case round =>
   clear H'
   try clear c1
   try clear c2
   try clear p2
   try clear c3
   try clear c3b0
   try clear c3b1
   try clear c3b2
   obtain ⟨x5_1, rfl, HA, HK1, ⟨m1, rfl⟩⟩ := hrel
   cases gk with
   | zero => exact absurd HA.out (by simp [soundingsref08_Same.l0])
   | succ k1 =>
    have H := HA.out
    clear HA
    simp only [soundingsref08_Same.l0] at H
    by_cases c4 : x5_1 < (l0.length : Int)
    ·rw [if_pos c4] at H
     have c4b0 : decide (x5_1 < (l0.length : Int)) = true := decide_eq_true c4
     clear c4
     by_cases c5 : 0 ≤ x5_1
     ·rw [if_pos c5] at H
      have c5b0 : decide (0 ≤ x5_1) = true := decide_eq_true c5
      clear c5
      by_cases c6 : x5_1 < (l1.length : Int)
      ·rw [if_pos c6] at H
       have c6b0 : decide (x5_1 < (l1.length : Int)) = true := decide_eq_true c6
       clear c6
       by_cases c7 : (!(((rd_T41 l0 x5_1).f0) == ((rd_T41 l1 x5_1).f0)) || (!(((rd_T41 l0 x5_1).f1) == ((rd_T41 l1 x5_1).f1)) || (!((((rd_T41 l0 x5_1).f2).toList) == (((rd_T41 l1 x5_1).f2).toList))))) = true
       ·rw [if_pos c7] at H
        have c7b0 : (!(((rd_T41 l0 x5_1).f0) == ((rd_T41 l1 x5_1).f0)) || (!(((rd_T41 l0 x5_1).f1) == ((rd_T41 l1 x5_1).f1)) || (!((((rd_T41 l0 x5_1).f2).toList) == (((rd_T41 l1 x5_1).f2).toList))))) = true := c7
        clear c7
        obtain rfl := Option.some.inj H
        have p364 : 0 ≤ (x5_1 : Int) := of_decide_eq_true (by first | (with_reducible assumption) | assumption)
        have q364 : x5_1 < (l0.length : Int) := of_decide_eq_true (by first | (with_reducible assumption) | assumption)
        obtain ⟨ad364, e364, hx364_0, hx364_1, hx364_2⟩ := at_T41 HR0.out x5_1 p364 q364
        cases e364
        replace p364 := eq_true p364
        replace q364 := eq_true q364
        have p365 : 0 ≤ (x5_1 : Int) := of_decide_eq_true (by first | (with_reducible assumption) | assumption)
        have q365 : x5_1 < (l1.length : Int) := of_decide_eq_true (by first | (with_reducible assumption) | assumption)
        obtain ⟨ad365, e365, hx365_0, hx365_1, hx365_2⟩ := at_T41 HR1.out x5_1 p365 q365
        cases e365
        replace p365 := eq_true p365
        replace q365 := eq_true q365
        go_wp2
        repeat (go_quiet (fail); try go_wp2)
        go_ret
        exact ⟨by first | rfl | (simp; done) | (simp [*]; done), by repeat (first | exact Drawn0.refl _ | apply Drawn0.step)⟩
       ·rw [if_neg c7] at H
        have c7b0 : (!(((rd_T41 l0 x5_1).f0) == ((rd_T41 l1 x5_1).f0)) || (!(((rd_T41 l0 x5_1).f1) == ((rd_T41 l1 x5_1).f1)) || (!((((rd_T41 l0 x5_1).f2).toList) == (((rd_T41 l1 x5_1).f2).toList))))) = false := by simpa using c7
        clear c7
        have H' := Aside0.mk H
        clear H
        have p364 : 0 ≤ (x5_1 : Int) := of_decide_eq_true (by first | (with_reducible assumption) | assumption)
        have q364 : x5_1 < (l0.length : Int) := of_decide_eq_true (by first | (with_reducible assumption) | assumption)
        obtain ⟨ad364, e364, hx364_0, hx364_1, hx364_2⟩ := at_T41 HR0.out x5_1 p364 q364
        cases e364
        replace p364 := eq_true p364
        replace q364 := eq_true q364
        have p365 : 0 ≤ (x5_1 : Int) := of_decide_eq_true (by first | (with_reducible assumption) | assumption)
        have q365 : x5_1 < (l1.length : Int) := of_decide_eq_true (by first | (with_reducible assumption) | assumption)
        obtain ⟨ad365, e365, hx365_0, hx365_1, hx365_2⟩ := at_T41 HR1.out x5_1 p365 q365
        cases e365
        replace p365 := eq_true p365
        replace q365 := eq_true q365
        go_wp2
        repeat (go_quiet (fail); try go_wp2)
        go_roundg k1
        case measure => have := HK1.out; omega
        case rel => exact ⟨(wrap64 (x5_1 + 1)), (by first | rfl | (simp; done) | (simp [*]; done)), H', ⟨by have := HK1.out; omega⟩, by repeat (first | exact Drawn0.refl _ | apply Drawn0.step)⟩
      ·rw [if_neg c6] at H
       exact absurd H (by simp)
     ·rw [if_neg c5] at H
      exact absurd H (by simp)
    ·rw [if_neg c4] at H
     have c4b0 : decide (x5_1 < (l0.length : Int)) = false := decide_eq_false c4
     clear c4
     obtain rfl := Option.some.inj H
     go_wp2
     repeat (go_quiet (fail); try go_wp2)
     go_ret
     exact ⟨by first | rfl | (simp; done) | (simp [*]; done), by repeat (first | exact Drawn0.refl _ | apply Drawn0.step)⟩
 ·rw [if_neg c3] at H
  have c3b0 : ((l0.length : Int) == (l1.length : Int)) = false := beq_eq_false_iff_ne.mpr c3
  have c3b1 : ((l0.length : Int) != (l1.length : Int)) = true := bne_iff_ne.mpr c3
  have c3b2 : (l0.length == l1.length) = false := by first | simpa using c3 | (simp at c3 ⊢; omega)
  obtain rfl := Option.some.inj H
  go_enter Tryz.func22, Tryz.ntmps22
  go_wp2
  repeat (go_quiet (fail); try go_wp2)
  go_ret
  exact ⟨by first | rfl | (simp; done) | (simp [*]; done), by repeat (first | exact Drawn0.refl _ | apply Drawn0.step)⟩

end Go.Proofs.YtjleceekccehoaaGreatDoor.Pr
end

section
set_option linter.unusedVariables false
set_option linter.unusedSimpArgs false
namespace Go.Proofs.YtjleceekccehoaaGreatDoor.Pr
open Go.RowKit Go.Proofs.YtjleceekccehoaaGreatDoorW.PrintWords Go.Proofs.YtjleceekccehoaaGreatDoorW.PrintLast Go.Proofs.YtjleceekccehoaaGreatDoorW.PrintMore

/-- A row of tokens at the head of block g. -/
structure TkR (w : World) (g : Nat) (l : List Tok) : Prop where
 typ : ∃ cells, w.heap[g]? = some (.cells cells 41 (0, 0))
 at_ : ∀ j x, l[j]? = some x → w.cell? ⟨g, j * 3, none⟩ = some (.int .i64 x.f0) ∧ w.cell? ⟨g, j * 3 + 1, none⟩ = some (.int .i64 x.f1) ∧ w.cell? ⟨g, j * 3 + 2, none⟩ = some (.string x.f2)
theorem TkR.froz {w : World} {g : Nat} {l : List Tok} (h : TkR w g l) (j : Nat) : w.frozen? ⟨g, j, none⟩ = false := by
 obtain ⟨cells, hc⟩ := h.typ
 simp [World.frozen?, hc]
theorem TkR.lt {w : World} {g : Nat} {l : List Tok} (h : TkR w g l) : g < w.heap.size := by
 obtain ⟨cells, hc⟩ := h.typ
 exact heap_lt hc
theorem cell_ne (w : World) (a b : Addr) (v : Value) (h : a ≠ b) : (w.setCell a v).cell? b = w.cell? b := by
 first | exact World.cell?_setCell_other _ _ _ _ h | exact World.cell?_setCell_other _ _ _ h | exact World.cell?_setCell_other _ _ h
theorem cell_eq (w : World) (a : Addr) (u v : Value) (h : w.cell? a = some u) : (w.setCell a v).cell? a = some v := by
 first | exact World.cell?_setCell_same _ _ _ h | exact World.cell?_setCell_same _ _ h
theorem TkR.put {w : World} {g : Nat} {l : List Tok} (h : TkR w g l) (i : Nat) (x : Tok) (hi : l[i]? = some x) (z : Int) : TkR (w.setCell ⟨g, i * 3 + 1, none⟩ (.int .i64 z)) g (l.set i ⟨x.f0, z, x.f2⟩) := by
 obtain ⟨cells, hc⟩ := h.typ
 refine ⟨⟨cells.setIfInBounds (i * 3 + 1) (.int .i64 z), by simp [World.setCell, Array.getElem?_modify, hc]⟩, fun j y hj => ?_⟩
 rw [List.getElem?_set] at hj
 split at hj
 ·rename_i hij
  subst hij
  split at hj
  ·have hy := Option.some.inj hj
   subst hy
   have h0 := h.at_ i x hi
   refine ⟨?_, cell_eq _ _ _ _ h0.2.1, ?_⟩
   ·rw [cell_ne _ _ _ _ (by simp)]; exact h0.1
   ·rw [cell_ne _ _ _ _ (by simp)]; exact h0.2.2
  ·cases hj
 ·rename_i hij
  have h0 := h.at_ j y hj
  refine ⟨?_, ?_, ?_⟩
  ·rw [cell_ne _ _ _ _ (by first | (simp; done) | (simp; omega))]; exact h0.1
  ·rw [cell_ne _ _ _ _ (by first | (simp; done) | (simp; omega))]; exact h0.2.1
  ·rw [cell_ne _ _ _ _ (by first | (simp; done) | (simp; omega))]; exact h0.2.2
theorem TkR.C {w : World} {g : Nat} {l : List Tok} (h : TkR w g l) (hl : l.length ≤ 1000000) : Kd.C k41 w (some ⟨g, 0, none⟩) l.length l := by
 refine ⟨rfl, by omega, fun _ => ⟨_, rfl, fun j p hj => ⟨[.int .i64 p.f0, .int .i64 p.f1, .string p.f2], rfl, k41_mk w p, fun q u hq => ?_⟩⟩⟩
 have h0 := h.at_ j p hj
 have e : (⟨g, 0, none⟩ : Addr).add (j * 3 + q) = ⟨g, j * 3 + q, none⟩ := by
  simp only [Addr.add]
  split
  ·rename_i hz; rw [hz]
  ·simp
 show w.cell? ((⟨g, 0, none⟩ : Addr).add (j * 3 + q)) = some u
 rw [e]
 match q, hq with
 | 0, hq => (have := Option.some.inj hq; subst this; exact h0.1)
 | 1, hq => (have := Option.some.inj hq; subst this; exact h0.2.1)
 | 2, hq => (have := Option.some.inj hq; subst this; exact h0.2.2)
 | q + 3, hq => (exfalso; simp at hq)
end Go.Proofs.YtjleceekccehoaaGreatDoor.Pr
end

section
set_option linter.unusedVariables false
set_option linter.unusedSimpArgs false
namespace Go.Proofs.YtjleceekccehoaaGreatDoor.Pr
open Go.RowKit Go.Proofs.YtjleceekccehoaaGreatDoorW.PrintWords Go.Proofs.YtjleceekccehoaaGreatDoorW.PrintLast Go.Proofs.YtjleceekccehoaaGreatDoorW.PrintMore

theorem same_l0 (l : List Tok) (hl : l.length ≤ 1000000) : ∀ (k i : Nat), i ≤ l.length → l.length < i + k → soundingsref08_Same.l0 k l l (i : Int) = some true := by
 intro k
 induction k with
 | zero =>
  intro i h0 h
  omega
 | succ k ih =>
  intro i h0 h
  unfold soundingsref08_Same.l0
  by_cases hi : (i : Int) < (l.length : Int)
  ·rw [if_pos hi, if_pos (by omega), if_pos hi, if_neg (by simp)]
   have hw : wrap64 ((i : Int) + 1) = ((i + 1 : Nat) : Int) := by unfold wrap64; omega
   rw [hw]
   exact ih (i + 1) (by omega) (by omega)
  ·rw [if_neg hi]
theorem same_refl (l : List Tok) (hl : l.length ≤ 1000000) : soundingsref08_Same.f (l.length + 1) l l = some true := by
 unfold soundingsref08_Same.f
 rw [if_pos rfl]
 exact same_l0 l hl (l.length + 1) 0 (by omega) (by omega)
end Go.Proofs.YtjleceekccehoaaGreatDoor.Pr
end
