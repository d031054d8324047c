/- Texts of this session, cut down to what one claim needs and joined: LexParts0, LexParts, LexP4, LexParts2. -/
import Derived.Test.YtjleceekccehoaaGreatDoorUGJ21
import Derived.Test.YtjleceekccehoaaGreatDoorUGJ22
section
set_option linter.unusedVariables false
set_option linter.unusedSimpArgs false
namespace Go.Proofs.YtjleceekccehoaaGreatDoor.Pr
open Go.RowKit Go.Proofs.YtjleceekccehoaaGreatDoorW.PrintWords Go.Proofs.YtjleceekccehoaaGreatDoorW.PrintLast Go.Proofs.YtjleceekccehoaaGreatDoorW.PrintMore

/-- A row of tokens at the head of block g. -/
structure TkR (w : World) (g : Nat) (l : List Tok) : Prop where
  typ : ∃ cells, w.heap[g]? = some (.cells cells 41 (0, 0))
  at_ : ∀ j x, l[j]? = some x → w.cell? ⟨g, j * 3, none⟩ = some (.int .i64 x.f0) ∧ w.cell? ⟨g, j * 3 + 1, none⟩ = some (.int .i64 x.f1) ∧ w.cell? ⟨g, j * 3 + 2, none⟩ = some (.string x.f2)
theorem TkR.froz {w : World} {g : Nat} {l : List Tok} (h : TkR w g l) (j : Nat) : w.frozen? ⟨g, j, none⟩ = false := by
  obtain ⟨cells, hc⟩ := h.typ
  simp [World.frozen?, hc]
theorem TkR.lt {w : World} {g : Nat} {l : List Tok} (h : TkR w g l) : g < w.heap.size := by
  obtain ⟨cells, hc⟩ := h.typ
  exact heap_lt hc
theorem TkR.move {w w' : World} {g : Nat} {l : List Tok} (h : TkR w g l) (hk : w'.heap[g]? = w.heap[g]?) : TkR w' g l := by
  obtain ⟨cells, hc⟩ := h.typ
  refine ⟨⟨cells, hk.trans hc⟩, fun j x hj => ?_⟩
  have := h.at_ j x hj
  rw [World.cell?_of_block (a := ⟨g, _, none⟩) hk, World.cell?_of_block (a := ⟨g, _, none⟩) hk, World.cell?_of_block (a := ⟨g, _, none⟩) hk]
  exact this
theorem cell_ne (w : World) (a b : Addr) (v : Value) (h : a ≠ b) : (w.setCell a v).cell? b = w.cell? b := by
  first | exact World.cell?_setCell_other _ _ _ _ h | exact World.cell?_setCell_other _ _ _ h | exact World.cell?_setCell_other _ _ h
theorem cell_eq (w : World) (a : Addr) (u v : Value) (h : w.cell? a = some u) : (w.setCell a v).cell? a = some v := by
  first | exact World.cell?_setCell_same _ _ _ h | exact World.cell?_setCell_same _ _ h
theorem TkR.put {w : World} {g : Nat} {l : List Tok} (h : TkR w g l) (i : Nat) (x : Tok) (hi : l[i]? = some x) (z : Int) : TkR (w.setCell ⟨g, i * 3 + 1, none⟩ (.int .i64 z)) g (l.set i ⟨x.f0, z, x.f2⟩) := by
  obtain ⟨cells, hc⟩ := h.typ
  refine ⟨⟨cells.setIfInBounds (i * 3 + 1) (.int .i64 z), by simp [World.setCell, Array.getElem?_modify, hc]⟩, fun j y hj => ?_⟩
  rw [List.getElem?_set] at hj
  split at hj
  · rename_i hij
    subst hij
    split at hj
    · have hy := Option.some.inj hj
      subst hy
      have h0 := h.at_ i x hi
      refine ⟨?_, cell_eq _ _ _ _ h0.2.1, ?_⟩
      · rw [cell_ne _ _ _ _ (by simp)]; exact h0.1
      · rw [cell_ne _ _ _ _ (by simp)]; exact h0.2.2
    · cases hj
  · rename_i hij
    have h0 := h.at_ j y hj
    refine ⟨?_, ?_, ?_⟩
    · rw [cell_ne _ _ _ _ (by first | (simp; done) | (simp; omega))]; exact h0.1
    · rw [cell_ne _ _ _ _ (by first | (simp; done) | (simp; omega))]; exact h0.2.1
    · rw [cell_ne _ _ _ _ (by first | (simp; done) | (simp; omega))]; exact h0.2.2
theorem TkR.C {w : World} {g : Nat} {l : List Tok} (h : TkR w g l) (hl : l.length ≤ 1000000) : Kd.C k41 w (some ⟨g, 0, none⟩) l.length l := by
  refine ⟨rfl, by omega, fun _ => ⟨_, rfl, fun j p hj => ⟨[.int .i64 p.f0, .int .i64 p.f1, .string p.f2], rfl, k41_mk w p, fun q u hq => ?_⟩⟩⟩
  have h0 := h.at_ j p hj
  have e : (⟨g, 0, none⟩ : Addr).add (j * 3 + q) = ⟨g, j * 3 + q, none⟩ := by
    simp only [Addr.add]
    split
    · rename_i hz; rw [hz]
    · simp
  show w.cell? ((⟨g, 0, none⟩ : Addr).add (j * 3 + q)) = some u
  rw [e]
  match q, hq with
  | 0, hq => (have := Option.some.inj hq; subst this; exact h0.1)
  | 1, hq => (have := Option.some.inj hq; subst this; exact h0.2.1)
  | 2, hq => (have := Option.some.inj hq; subst this; exact h0.2.2)
  | q + 3, hq => (exfalso; simp at hq)
/-- An own row of tokens that is not empty. -/
theorem row_tk {w : World} {base : Nat} {ok : Nat → Prop} {v : Value} {l : List Tok} (h : Kd.R k41 41 w base ok v l) (h0 : l ≠ []) : ∃ g c, v = .slice (some ⟨g, 0, none⟩) l.length c ∧ l.length ≤ c ∧ base ≤ g ∧ TkR w g l := by
  obtain ⟨A, c, he, hl, hr⟩ := Kd.R_reads h
  have hp : 0 < l.length := List.length_pos_iff.2 h0
  obtain ⟨ad, hA, hc⟩ := hr.2.2 hp
  obtain ⟨inner, ho⟩ := Kd.R_own h
  rcases ho.2 with ⟨hv, _⟩ | ⟨g, cap, cur, hv, hb, hh, _⟩
  · rw [hv] at he
    injection he with h1 h2
    rw [hA] at h1; cases h1
  · rw [hv] at he
    injection he with h1 h2 h3
    rw [hA] at h1
    obtain rfl := (Option.some.inj h1).symm
    refine ⟨g, c, by rw [hv, h3], hl, hb, ⟨cur, hh⟩, fun j x hj => ?_⟩
    obtain ⟨cs, hcs, hR, hcell⟩ := hc j x hj
    obtain rfl := k41_open hR
    have ea : ∀ q, (⟨g, 0, none⟩ : Addr).add (j * (k41).sz + q) = ⟨g, j * 3 + q, none⟩ := fun q => by
      show (⟨g, 0, none⟩ : Addr).add (j * 3 + q) = _
      simp only [Addr.add]
      split
      · rename_i hz; rw [hz]
      · simp
    have c0 := hcell 0 _ rfl
    have c1 := hcell 1 _ rfl
    have c2 := hcell 2 _ rfl
    rw [ea] at c0 c1 c2
    exact ⟨c0, c1, c2⟩
end Go.Proofs.YtjleceekccehoaaGreatDoor.Pr
end

section
set_option linter.unusedVariables false
set_option linter.unusedSimpArgs false
namespace Go.Proofs.YtjleceekccehoaaGreatDoor.Pr
open Go.RowKit Go.Proofs.YtjleceekccehoaaGreatDoorW.PrintWords Go.Proofs.YtjleceekccehoaaGreatDoorW.PrintLast Go.Proofs.YtjleceekccehoaaGreatDoorW.PrintMore

theorem bs_cat (a b : List UInt8) : bs a ++ bs b = bs (a ++ b) := by
  apply ByteArray.ext
  simp [bs]
/-- Lex returns a pair, whatever it tells. -/
theorem lex_any' (l : List UInt8) (hl : l.length ≤ 4000) (w : World) (hX : LaidT8 w) : Calls Tryz.prog 18 #[.string (bs l)] w fun e w' => (∃ v u, e = .returned (.tuple #[v, u])) ∧ Below w.heap.size w w' := by
  refine (lex_any l hl w hX).mono ?_
  rintro e w' ⟨h, hb⟩
  refine ⟨?_, hb⟩
  unfold LexE at h
  split at h
  · obtain ⟨v, he, _⟩ := h; exact ⟨v, _, he⟩
  · obtain ⟨g, he, _⟩ := h; exact ⟨_, _, he⟩
set_option maxHeartbeats 4000000 in
set_option maxRecDepth 100000 in
theorem parts_bad (a b : List UInt8) (ha : a.length ≤ 300) (hb : b.length ≤ 300) (hbad : (∃ p, lexS 0 a = .error p) ∨ ((∃ X, lexS 0 a = .ok X) ∧ ∃ p, lexS 0 b = .error p)) (w : World) (hX : LaidW w) :
    Calls Tryz.prog 7 #[.string (bs a), .string (bs b)] w fun e w' => e = .returned (.bool true) ∧ Below w.heap.size w w' := by
  have HX := Aside0.mk hX
  have sa := bs_size a
  have sb := bs_size b
  have a1 : ((a.length : Int) > 300) = False := eq_false (by omega)
  have b1 : ((b.length : Int) > 300) = False := eq_false (by omega)
  have z1 : a.length + 1 ≤ 9223372036854775807 := by omega
  have z2 : a.length + 1 + b.length ≤ 9223372036854775807 := by omega
  have HLA := Aside0.mk ha
  have HLB := Aside0.mk hb
  have hcat : bs a ++ (⟨#[10]⟩ : ByteArray) ++ bs b = bs (a ++ 10 :: b) := by rw [show (⟨#[10]⟩ : ByteArray) = bs [10] from rfl, bs_cat, bs_cat]; simp
  have HC3 : Aside0 (∀ W, LaidT8 W → Calls Tryz.prog 18 #[.string (bs (a ++ 10 :: b))] W fun e w' => (∃ v u, e = .returned (.tuple #[v, u])) ∧ Below W.heap.size W w') := ⟨fun W h => lex_any' _ (by simp; omega) W h⟩
  rcases hbad with ⟨p, hp⟩ | ⟨⟨X, hx⟩, p, hp⟩
  · have HA : Aside0 (∀ W, LaidT8 W → Calls Tryz.prog 18 #[.string (bs a)] W fun e w' => (∃ g, e = .returned (.tuple #[.slice none 0 0, .iface 61 (.pointer (some ⟨g, 0, none⟩))])) ∧ Below W.heap.size W w') := ⟨fun W h => by
      have h1 := lex_any a (by omega) W h
      rw [hp] at h1
      exact h1.mono (fun e w' h => ⟨by obtain ⟨g, he, _⟩ := h.1; exact ⟨g, he⟩, h.2⟩)⟩
    have HB2 : Aside0 (∀ W, LaidT8 W → Calls Tryz.prog 18 #[.string (bs b)] W fun e w' => (∃ v u, e = .returned (.tuple #[v, u])) ∧ Below W.heap.size W w') := ⟨fun W h => lex_any' _ (by omega) W h⟩
    clear hX ha hb hp
    go_enter Tryz.func7, Tryz.ntmps7
    go_wp2_with fail
    refine (awake8_any _ HX.out).mono ?_
    rintro e_ w1 ⟨rfl, hb1⟩
    have HB1 := Aside0.mk hb1
    clear hb1
    go_wp2_with fail
    refine (HA.out _ (HX.out.t.below HB1.out)).mono ?_
    rintro e_ w2 ⟨⟨g, rfl⟩, hb2⟩
    have HBB2 := Aside0.mk (below_step HB1.out hb2)
    clear hb2
    go_wp2_with fail
    refine (HB2.out _ (HX.out.t.below HBB2.out)).mono ?_
    rintro e_ w3 ⟨⟨v3, u3, rfl⟩, hb3⟩
    have HBB3 := Aside0.mk (below_step HBB2.out hb3)
    clear hb3
    go_wp2_with fail
    refine (HC3.out _ (HX.out.t.below HBB3.out)).mono ?_
    rintro e_ w4 ⟨⟨v4, u4, rfl⟩, hb4⟩
    have HBB4 := Aside0.mk (below_step HBB3.out hb4)
    clear hb4
    go_wp2_with fail
    go_ret
    exact ⟨by first | rfl | simp, HBB4.out⟩
  · have HA : Aside0 (∀ W, LaidT8 W → Calls Tryz.prog 18 #[.string (bs a)] W fun e w' => (∃ v, e = .returned (.tuple #[v, .nilIface])) ∧ Below W.heap.size W w') := ⟨fun W h => by
      have h1 := lex_any a (by omega) W h
      rw [hx] at h1
      exact h1.mono (fun e w' h => ⟨by obtain ⟨v, he, _⟩ := h.1; exact ⟨v, he⟩, h.2⟩)⟩
    have HB2 : Aside0 (∀ W, LaidT8 W → Calls Tryz.prog 18 #[.string (bs b)] W fun e w' => (∃ g, e = .returned (.tuple #[.slice none 0 0, .iface 61 (.pointer (some ⟨g, 0, none⟩))])) ∧ Below W.heap.size W w') := ⟨fun W h => by
      have h1 := lex_any b (by omega) W h
      rw [hp] at h1
      exact h1.mono (fun e w' h => ⟨by obtain ⟨g, he, _⟩ := h.1; exact ⟨g, he⟩, h.2⟩)⟩
    clear hX ha hb hp hx
    go_enter Tryz.func7, Tryz.ntmps7
    go_wp2_with fail
    refine (awake8_any _ HX.out).mono ?_
    rintro e_ w1 ⟨rfl, hb1⟩
    have HB1 := Aside0.mk hb1
    clear hb1
    go_wp2_with fail
    refine (HA.out _ (HX.out.t.below HB1.out)).mono ?_
    rintro e_ w2 ⟨⟨v2, rfl⟩, hb2⟩
    have HBB2 := Aside0.mk (below_step HB1.out hb2)
    clear hb2
    go_wp2_with fail
    refine (HB2.out _ (HX.out.t.below HBB2.out)).mono ?_
    rintro e_ w3 ⟨⟨g, rfl⟩, hb3⟩
    have HBB3 := Aside0.mk (below_step HBB2.out hb3)
    clear hb3
    go_wp2_with fail
    refine (HC3.out _ (HX.out.t.below HBB3.out)).mono ?_
    rintro e_ w4 ⟨⟨v4, u4, rfl⟩, hb4⟩
    have HBB4 := Aside0.mk (below_step HBB3.out hb4)
    clear hb4
    go_wp2_with fail
    go_ret
    exact ⟨by first | rfl | simp, HBB4.out⟩
/-- y's tokens, the first i moved. -/
def moved (d : Int) (Y : List Tok) (i : Nat) : List Tok := (Y.take i).map (shT d) ++ Y.drop i
theorem moved_all (d : Int) (Y : List Tok) : moved d Y Y.length = Y.map (shT d) := by unfold moved; rw [List.take_length, List.drop_length, List.append_nil]
theorem moved_get (d : Int) (Y : List Tok) (i : Nat) (x : Tok) (hx : Y[i]? = some x) : (moved d Y i)[i]? = some x := by
  have hi : i < Y.length := by
    rcases Nat.lt_or_ge i Y.length with h | h
    · exact h
    · rw [List.getElem?_eq_none h] at hx; cases hx
  unfold moved
  rw [List.getElem?_append_right (by simp; omega)]
  simp [Nat.min_eq_left (Nat.le_of_lt hi), hx]
theorem moved_next (d : Int) (Y : List Tok) (i : Nat) (x : Tok) (hx : Y[i]? = some x) : (moved d Y i).set i ⟨x.f0, x.f1 + d, x.f2⟩ = moved d Y (i + 1) := by
  have hi : i < Y.length := by
    rcases Nat.lt_or_ge i Y.length with h | h
    · exact h
    · rw [List.getElem?_eq_none h] at hx; cases hx
  have hxe : Y[i] = x := by rw [List.getElem?_eq_getElem hi] at hx; exact Option.some.inj hx
  unfold moved
  rw [List.set_append_right _ _ (by simp; omega), List.take_succ_eq_append_getElem hi, List.map_append, List.append_assoc, List.drop_eq_getElem_cons hi, hxe]
  simp [Nat.min_eq_left (Nat.le_of_lt hi), shT]
end Go.Proofs.YtjleceekccehoaaGreatDoor.Pr
end

section
set_option linter.unusedVariables false
set_option linter.unusedSimpArgs false
namespace Go.Proofs.YtjleceekccehoaaGreatDoor.Pr
open Go.RowKit

/-- Tokens stand behind where the text begins, and are no more than it has bytes. -/
theorem lexS_ge : ∀ (n : Nat) (v : List UInt8) (f : Nat) (L : List Tok), v.length ≤ n → lexS f v = .ok L → (∀ x ∈ L, ∃ a : Nat, x.f1 = (a : Int) ∧ f ≤ a ∧ a ≤ f + v.length) ∧ L.length ≤ v.length := by
  intro n
  induction n with
  | zero =>
    intro v f L hn h
    have : v = [] := List.length_eq_zero_iff.1 (by omega)
    subst this
    have hX : L = [] := by rw [lexS_nil] at h; injection h with h; exact h.symm
    subst hX
    exact ⟨(fun x hx => by cases hx), Nat.le_refl _⟩
  | succ n ih =>
    intro v f L hn h
    by_cases hs : v = []
    · subst hs
      have hX : L = [] := by rw [lexS_nil] at h; injection h with h; exact h.symm
      subst hX
      exact ⟨(fun x hx => by cases hx), Nat.le_refl _⟩
    · rcases step_cases hs h with ⟨u, v, rfl, hu, hp, hr⟩ | ⟨u, v, k, t, X', rfl, hu, ht, hb, rfl, hr⟩
      · rw [List.length_append] at hn ⊢
        obtain ⟨h1, h2⟩ := ih v _ L (by omega) hr
        exact ⟨fun x hx => by obtain ⟨a, e, ha, hb⟩ := h1 x hx; exact ⟨a, e, by omega, by omega⟩, by omega⟩
      · rw [List.length_append] at hn ⊢
        obtain ⟨h1, h2⟩ := ih v _ X' (by omega) hr
        refine ⟨fun x hx => ?_, by simp; omega⟩
        rcases List.mem_cons.1 hx with rfl | hx
        · exact ⟨f, rfl, Nat.le_refl _, by omega⟩
        · obtain ⟨a, e, ha, hb⟩ := h1 x hx; exact ⟨a, e, by omega, by omega⟩
end Go.Proofs.YtjleceekccehoaaGreatDoor.Pr
end

section
set_option linter.unusedVariables false
set_option linter.unusedSimpArgs false
namespace Go.Proofs.YtjleceekccehoaaGreatDoor.Pr
open Go.RowKit Go.Proofs.YtjleceekccehoaaGreatDoorW.PrintWords Go.Proofs.YtjleceekccehoaaGreatDoorW.PrintLast Go.Proofs.YtjleceekccehoaaGreatDoorW.PrintMore

theorem same_l0 (l : List Tok) (hl : l.length ≤ 1000000) : ∀ (k i : Nat), i ≤ l.length → l.length < i + k → soundingsref08_Same.l0 k l l (i : Int) = some true := by
  intro k
  induction k with
  | zero =>
    intro i h0 h
    omega
  | succ k ih =>
    intro i h0 h
    unfold soundingsref08_Same.l0
    by_cases hi : (i : Int) < (l.length : Int)
    · rw [if_pos hi, if_pos (by omega), if_pos hi, if_neg (by simp)]
      have hw : wrap64 ((i : Int) + 1) = ((i + 1 : Nat) : Int) := by unfold wrap64; omega
      rw [hw]
      exact ih (i + 1) (by omega) (by omega)
    · rw [if_neg hi]
theorem same_refl (l : List Tok) (hl : l.length ≤ 1000000) : soundingsref08_Same.f (l.length + 1) l l = some true := by
  unfold soundingsref08_Same.f
  rw [if_pos rfl]
  exact same_l0 l hl (l.length + 1) 0 (by omega) (by omega)
theorem wpList_step {P : Program} {ops : Array Oper} {Q : Exit → Act → World → Prop} {o : Oper} {rest : List Oper} {a : Act} {w : World}
    (h : if Region.wanted o (yielded ops a.tmps) = true then Oper.wp P o a w (wpList P ops Q rest) Q else wpList P ops Q rest (a.put o.dst undef) w) : wpList P ops Q (o :: rest) a w := by
  unfold wpList
  split
  · rename_i hw; rw [if_pos hw] at h; exact Or.inl h
  · rename_i hw; rw [if_neg hw] at h; exact h
theorem flat_Tk (w : World) (base : Nat) (ok : Nat → Prop) (x : Tok) (cs : List Value) (h : k41.K w x cs) : k41.M w base ok x cs := by
  rw [k41_open h]
  exact k41_mkM w base ok x
set_option maxHeartbeats 8000000 in
set_option maxRecDepth 100000 in
theorem parts_good (a b : List UInt8) (ha : a.length ≤ 300) (hb : b.length ≤ 300) (X Y : List Tok) (hx : lexS 0 a = .ok X) (hy : lexS 0 b = .ok Y) (hY : Y ≠ []) (w : World) (hX : LaidW w) :
    Calls Tryz.prog 7 #[.string (bs a), .string (bs b)] w fun e w' => e = .returned (.bool true) ∧ Below w.heap.size w w' := by
  have HX := Aside0.mk hX
  have sa := bs_size a
  have sb := bs_size b
  have a1 : ((a.length : Int) > 300) = False := eq_false (by omega)
  have b1 : ((b.length : Int) > 300) = False := eq_false (by omega)
  have z1 : a.length + 1 ≤ 9223372036854775807 := by omega
  have z2 : a.length + 1 + b.length ≤ 9223372036854775807 := by omega
  have HLA := Aside0.mk ha
  have HLB := Aside0.mk hb
  obtain ⟨d, hd⟩ : ∃ d : Int, (a.length : Int) + 1 = d := ⟨_, rfl⟩
  have hz := parts_law a b X Y hx hy
  rw [hd] at hz
  obtain ⟨Z, hZ⟩ : ∃ Z, X ++ Y.map (shT d) = Z := ⟨_, rfl⟩
  rw [hZ] at hz
  have HZ := Aside0.mk hZ
  have hcat : bs a ++ (⟨#[10]⟩ : ByteArray) ++ bs b = bs (a ++ 10 :: b) := by rw [show (⟨#[10]⟩ : ByteArray) = bs [10] from rfl, bs_cat, bs_cat]; simp
  have hOK : ∀ (l : List UInt8) (L : List Tok), l.length ≤ 4000 → lexS 0 l = .ok L → Aside0 (∀ W, LaidT8 W → Calls Tryz.prog 18 #[.string (bs l)] W fun e w' => (∃ v, e = .returned (.tuple #[v, .nilIface]) ∧ Kd.R k41 41 w' W.heap.size (fun _ => True) v L) ∧ Below W.heap.size W w') := fun l L hl h => ⟨fun W hW => by
    have h1 := lex_any l hl W hW
    rw [h] at h1
    exact h1⟩
  have HA := hOK a X (by omega) hx
  have HB2 := hOK b Y (by omega) hy
  have HC3 := hOK (a ++ 10 :: b) Z (by simp; omega) hz
  have hge := lexS_ge _ b 0 Y (Nat.le_refl _) hy
  have HG := Aside0.mk hge
  have HGX := Aside0.mk (lexS_ge _ a 0 X (Nat.le_refl _) hx)
  have HD := Aside0.mk hd
  clear hOK hX hx hy hz hge ha hb hZ
  go_enter Tryz.func7, Tryz.ntmps7
  go_wp2_with fail
  refine (awake8_any _ HX.out).mono ?_
  rintro e_ w1 ⟨rfl, hb1⟩
  have HB1 := Aside0.mk hb1
  clear hb1
  go_wp2_with fail
  refine (HA.out _ (HX.out.t.below HB1.out)).mono ?_
  rintro e_ w2 ⟨⟨v2, rfl, hr2⟩, hb2⟩
  have HBB2 := Aside0.mk (below_step HB1.out hb2)
  have HR2 := Aside0.mk hr2
  clear hb2 hr2
  go_wp2_with fail
  refine (HB2.out _ (HX.out.t.below HBB2.out)).mono ?_
  rintro e_ w3 ⟨⟨v3, rfl, hr3⟩, hb3⟩
  have HBB3 := Aside0.mk (below_step HBB2.out hb3)
  have HR23 := Aside0.mk (Kd.R_below (Kd.R_bound HR2.out) hb3)
  have HR3 := Aside0.mk hr3
  have HS23 := Aside0.mk hb3.size
  clear hb3 hr3 HR2
  go_wp2_with fail
  refine (HC3.out _ (HX.out.t.below HBB3.out)).mono ?_
  rintro e_ w4 ⟨⟨v4, rfl, hr4⟩, hb4⟩
  have HBB4 := Aside0.mk (below_step HBB3.out hb4)
  have HR24 := Aside0.mk (Kd.R_below HR23.out hb4)
  have HR34 := Aside0.mk (Kd.R_below (Kd.R_bound HR3.out) hb4)
  have HR4 := Aside0.mk hr4
  have HS34 := Aside0.mk hb4.size
  clear hb4 hr4 HR23 HR3
  obtain ⟨g, c, rfl, hgc, hgb, hT⟩ := row_tk HR34.out hY
  have hg3 : g < w3.heap.size := by have := Kd.R_base HR34.out g; exact (HR34.out.1 g rfl).2.2.1
  have HT := Aside0.mk hT
  obtain ⟨n, hn⟩ : ∃ n, Y.length = n := ⟨_, rfl⟩
  have HN := Aside0.mk hn
  rw [hn] at hgc ⊢
  have hn3 : n ≤ 300 := by have := HG.out.2; have := HLB.out; omega
  clear hn hT
  go_wp2_with fail
  go_loopg [11] n (fun q v11 wx => ∃ i : Nat, v11 = .int .i64 (i : Int) ∧ i + q = n ∧ Aside0 (TkR wx g (moved d Y i)) ∧ Aside0 (∀ k, k ≠ g → wx.heap[k]? = w4.heap[k]?) ∧ Aside0 (Below w.heap.size w wx))
  case atStart => exact ⟨0, rfl, by omega, HT, ⟨fun k _ => rfl⟩, HBB4⟩
  case round =>
    clear HT
    obtain ⟨i, rfl, hi, HT, HK, HBx⟩ := hrel
    by_cases hin : i = n
    · subst hin
      have t0 : ((i : Int) < (i : Int)) = False := eq_false (by omega)
      have HRZ := Aside0.mk (Kd.R_step (Kd.R_bound HR4.out) (fun k hk _ => HK.out k (by have := hk.2.1; omega)))
      have HRX := Aside0.mk (Kd.R_step HR24.out (fun k hk _ => HK.out k (by have := hk.2.2.1; omega)))
      obtain ⟨A4, c4, rfl, hc4, hC4⟩ := Kd.R_reads HRZ.out
      obtain ⟨A2, c2, rfl, hc2, hC2⟩ := Kd.R_reads HRX.out
      have HC4 := Aside0.mk hC4
      have HC2 := Aside0.mk hC2
      have HCC4 := Aside0.mk hc4
      have hma : moved d Y i = Y.map (shT d) := by rw [← HN.out]; exact moved_all d Y
      have HTY : Aside0 (TkR wr g (Y.map (shT d))) := ⟨by rw [← hma]; exact HT.out⟩
      have HLX : Aside0 (X.length ≤ 300) := ⟨by have := HGX.out.2; have := HLA.out; omega⟩
      have HLY : Aside0 ((Y.map (shT d)).length = i) := ⟨by rw [List.length_map]; exact HN.out⟩
      have hlz : Z.length ≤ 1000000 := by rw [← HZ.out, List.length_append, HLY.out]; have := HLX.out; omega
      have HLZ := Aside0.mk hlz
      clear hC4 hC2 hc4 hc2 hma HT hlz
      go_wp2_with (first
        | ((with_reducible refine gate_builtin (b := .append) (xs := #[.tmp 76, .tmp 77]) rfl ?_); at_builtin; refine wpList_step (Kd.R_append_rows_step k41 (w0 := wr) wr.heap.size (by rfl) (.tmp 76) (.tmp 77) 29 41 _ 32 rfl Tryz.underlying29 info41 rfl (by decide) (by omega) (.slice (some ⟨wr.heap.size, 0, none⟩) 0 0) [] X A2 X.length c2 (fun _ => True) (fun _ => False) rfl rfl ⟨fun _ _ => trivial, OwnRow.lit wr wr.heap.size (Reps.none _ _) (Nat.le_refl _) (by simp)⟩ (Kd.C_below HC2.out (below_alloc (Below.refl _ _) _)) (fun x cs h => flat_Tk _ _ _ x cs h) (fun _ h => h.elim) (fun _ _ => trivial) (below_alloc (Below.refl _ _) _) (by simp) (by simp; have := HLX.out; omega) ?_); intro v5 w5 hr5 hb5 _ _; have HR5 := Aside0.mk hr5; have HB5 := Aside0.mk hb5; clear hr5 hb5)
        | ((with_reducible refine gate_builtin (b := .append) (xs := #[.tmp 78, .tmp 79]) rfl ?_); at_builtin; refine wpList_step (Kd.R_append_rows_step k41 (w0 := wr) wr.heap.size (by rfl) (.tmp 78) (.tmp 79) 29 41 _ 32 rfl Tryz.underlying29 info41 rfl (by decide) (by omega) v5 ([] ++ X) (Y.map (shT d)) (some ⟨g, 0, none⟩) i c (fun _ => True) (fun _ => False) rfl rfl HR5.out (by have h1 := (HTY.out.move (HB5.out.block g HTY.out.lt)).C (by rw [HLY.out]; omega); rw [HLY.out] at h1; exact h1) (fun x cs h => flat_Tk _ _ _ x cs h) (fun _ h => h.elim) (fun _ _ => trivial) HB5.out HB5.out.size (by simp; have := HLX.out; omega) ?_); intro v6 w6 hr6 hb6 _ _; have HB6 := Aside0.mk hb6; rw [List.nil_append, HZ.out] at hr6; obtain ⟨A6, c6, rfl, hc6, hC6⟩ := Kd.R_reads hr6; have HC6 := Aside0.mk hC6; have HCC6 := Aside0.mk hc6; clear hr6 hb6 hc6 hC6)
        | (go_at_call 22; refine (soundingsref08_Same.calls (Z.length + 1) A4 c4 Z A6 c6 Z true _ (Kd.C_below HC4.out HB6.out) HCC4.out HC6.out HCC6.out (same_refl Z HLZ.out)).mono ?_; rintro e_ w7 ⟨rfl, hd7⟩; have HB7 := Aside0.mk hd7.below; clear hd7))
      go_ret
      exact ⟨by first | rfl | simp, below_step (below_step HBx.out HB6.out) HB7.out⟩
    · have hlt : i < Y.length := by have := HN.out; omega
      obtain ⟨x, hx⟩ : ∃ x, Y[i]? = some x := ⟨Y[i], List.getElem?_eq_getElem hlt⟩
      obtain ⟨p, hp, _, hp2⟩ := HG.out.1 x (List.mem_of_getElem? hx)
      have hc := HT.out.at_ i x (moved_get d Y i x hx)
      have c1 := hc.2.1
      rw [hp] at c1
      have f1 := HT.out.froz (i * 3 + 1)
      have hp3 : p ≤ 300 := by have := HLB.out; omega
      have hal := HLA.out
      have q1 : (0 : Int) ≤ (i : Int) := by omega
      have q2 : (i : Int) < (n : Int) := by omega
      obtain ⟨q', rfl⟩ : ∃ q', gk = q' + 1 := ⟨gk - 1, by omega⟩
      have HM := Aside0.mk (moved_next d Y i x hx)
      have HPX := Aside0.mk hp
      have HXI := Aside0.mk (moved_get d Y i x hx)
      clear hx hc hp hp2
      go_wp2_with fail
      go_roundg q'
      case measure => omega
      case rel => exact ⟨i + 1, by go_num, by omega, ⟨by
        have h1 := HT.out.put i x HXI.out ((p : Int) + (a.length : Int) + 1)
        have e : (p : Int) + (a.length : Int) + 1 = x.f1 + d := by rw [HPX.out]; have := HD.out; omega
        rw [← HM.out, ← e]
        exact h1⟩, ⟨fun k hk => by rw [← HK.out k hk]; exact Below.heap_setCell _ _ _ k hk⟩, ⟨HBx.out.setCell (by show w.heap.size ≤ g; have := HBB2.out.size; have := HBB3.out.size; omega) _⟩⟩
end Go.Proofs.YtjleceekccehoaaGreatDoor.Pr
end
