/- Texts of this session, cut down to what one claim needs and joined: LexP4, LexBlank. -/
import Derived.Test.YtjleceekccehoaaGreatDoorQGJ22
import Derived.RegionTactic
section
set_option linter.unusedVariables false
set_option linter.unusedSimpArgs false
namespace Go.Proofs.YtjleceekccehoaaGreatDoor.Pr
open Go.RowKit

def sepOf (i : Nat) : List UInt8 := if i % 4 = 0 then [32] else if i % 4 = 1 then [10] else if i % 4 = 2 then [9] else [32, 10, 35, 120, 10]
/-- The text with a blank ahead of every token. -/
def blankTx (s : List UInt8) : Nat → Nat → List Tok → List UInt8
  | f, _, [] => s.drop f ++ [10, 35]
  | f, i, x :: L => (s.drop f).take (x.f1.toNat - f) ++ sepOf i ++ blankTx s x.f1.toNat (i + 1) L
def MatchT : List Tok → List Tok → Prop
  | [], [] => True
  | x :: L, y :: K => (y.f0 = x.f0 ∧ y.f2 = x.f2 ∧ x.f1 ≤ y.f1) ∧ MatchT L K
  | _, _ => False
theorem sep_head (i : Nat) : ∃ c w, sepOf i = c :: w ∧ isBlk c.toNat = true := by
  unfold sepOf
  split
  · exact ⟨32, [], rfl, by decide⟩
  · split
    · exact ⟨10, [], rfl, by decide⟩
    · split
      · exact ⟨9, [], rfl, by decide⟩
      · exact ⟨32, [10, 35, 120, 10], rfl, by decide⟩
theorem sep_len (i : Nat) : (sepOf i).length ≤ 5 := by
  unfold sepOf
  split
  · decide
  · split
    · decide
    · split <;> decide
theorem pass_one (p : Nat) (c : UInt8) (Z : List UInt8) (hc : isBlk c.toNat = true) : lexS p (c :: Z) = lexS (p + 1) Z :=
  pass_by p [c] Z (Or.inl (fun d hd => by rw [List.mem_singleton.1 hd]; exact hc))
theorem lexS_sep (p i : Nat) (Z : List UInt8) : lexS p (sepOf i ++ Z) = lexS (p + (sepOf i).length) Z := by
  unfold sepOf
  split
  · exact pass_one p 32 Z (by decide)
  · split
    · exact pass_one p 10 Z (by decide)
    · split
      · exact pass_one p 9 Z (by decide)
      · show lexS p (32 :: 10 :: ([35, 120] ++ 10 :: Z)) = lexS (p + 5) Z
        rw [pass_one p 32 _ (by decide), pass_one (p + 1) 10 _ (by decide), pass_by (p + 1 + 1) [35, 120] (10 :: Z) (Or.inr ⟨⟨35, [120], rfl, by decide⟩, by decide, Or.inr ⟨Z, rfl⟩⟩), pass_one _ 10 Z (by decide)]
        rfl
theorem lexS_end (p : Nat) : lexS p [10, 35] = .ok [] := by
  rw [pass_one p 10 [35] (by decide), show ([35] : List UInt8) = [35] ++ [] from rfl, pass_by (p + 1) [35] [] (Or.inr ⟨⟨35, [], rfl, by decide⟩, by decide, Or.inl rfl⟩)]
  rfl
/-- Tokens stand behind where the text begins, and are no more than it has bytes. -/
theorem lexS_ge : ∀ (n : Nat) (v : List UInt8) (f : Nat) (L : List Tok), v.length ≤ n → lexS f v = .ok L → (∀ x ∈ L, ∃ a : Nat, x.f1 = (a : Int) ∧ f ≤ a ∧ a ≤ f + v.length) ∧ L.length ≤ v.length := by
  intro n
  induction n with
  | zero =>
    intro v f L hn h
    have : v = [] := List.length_eq_zero_iff.1 (by omega)
    subst this
    have hX : L = [] := by rw [lexS_nil] at h; injection h with h; exact h.symm
    subst hX
    exact ⟨(fun x hx => by cases hx), Nat.le_refl _⟩
  | succ n ih =>
    intro v f L hn h
    by_cases hs : v = []
    · subst hs
      have hX : L = [] := by rw [lexS_nil] at h; injection h with h; exact h.symm
      subst hX
      exact ⟨(fun x hx => by cases hx), Nat.le_refl _⟩
    · rcases step_cases hs h with ⟨u, v, rfl, hu, hp, hr⟩ | ⟨u, v, k, t, X', rfl, hu, ht, hb, rfl, hr⟩
      · rw [List.length_append] at hn ⊢
        obtain ⟨h1, h2⟩ := ih v _ L (by omega) hr
        exact ⟨fun x hx => by obtain ⟨a, e, ha, hb⟩ := h1 x hx; exact ⟨a, e, by omega, by omega⟩, by omega⟩
      · rw [List.length_append] at hn ⊢
        obtain ⟨h1, h2⟩ := ih v _ X' (by omega) hr
        refine ⟨fun x hx => ?_, by simp; omega⟩
        rcases List.mem_cons.1 hx with rfl | hx
        · exact ⟨f, rfl, Nat.le_refl _, by omega⟩
        · obtain ⟨a, e, ha, hb⟩ := h1 x hx; exact ⟨a, e, by omega, by omega⟩
theorem drop_u {s u v : List UInt8} {f : Nat} (h : s.drop f = u ++ v) : s.drop (f + u.length) = v := by
  rw [← List.drop_drop, h, List.drop_left' rfl]
/-- What stands ahead of the first token goes ahead. -/
theorem blankTx_pass {s u v : List UInt8} {f i : Nat} {L : List Tok} (h : s.drop f = u ++ v) (hL : ∀ x ∈ L, ∃ a : Nat, x.f1 = (a : Int) ∧ f + u.length ≤ a ∧ a ≤ f + u.length + v.length) : blankTx s f i L = u ++ blankTx s (f + u.length) i L := by
  cases L with
  | nil =>
    show s.drop f ++ [10, 35] = u ++ (s.drop (f + u.length) ++ [10, 35])
    rw [drop_u h, h, List.append_assoc]
  | cons x L =>
    obtain ⟨a, ha, hge, _⟩ := hL x List.mem_cons_self
    show (s.drop f).take (x.f1.toNat - f) ++ sepOf i ++ _ = u ++ ((s.drop (f + u.length)).take (x.f1.toNat - (f + u.length)) ++ sepOf i ++ _)
    rw [drop_u h, h, ha, Int.toNat_natCast]
    have e : a - f = u.length + (a - (f + u.length)) := by omega
    rw [e, List.take_length_add_append]
    simp only [List.append_assoc]
theorem fit_blankTx {s v : List UInt8} {f i : Nat} {L : List Tok} (h : s.drop f = v) (hv : lexS f v = .ok L) : Fit v (blankTx s f i L) := by
  have hge := lexS_ge _ v f L (Nat.le_refl _) hv
  cases L with
  | nil =>
    show Fit v (s.drop f ++ [10, 35])
    rw [h]; exact fit_app v [35]
  | cons x L =>
    obtain ⟨a, ha, hge2, _⟩ := hge.1 x List.mem_cons_self
    show Fit v ((s.drop f).take (x.f1.toNat - f) ++ sepOf i ++ _)
    rw [h, ha, Int.toNat_natCast]
    cases v with
    | nil => rw [lexS_nil] at hv; injection hv with hv; cases hv
    | cons c w =>
      by_cases h0 : a - f = 0
      · rw [h0]
        obtain ⟨d, q, hd, hb⟩ := sep_head i
        rw [hd]
        exact Or.inr ⟨d, _, rfl, Or.inl hb⟩
      · obtain ⟨m, hm⟩ : ∃ m, a - f = m + 1 := ⟨a - f - 1, by omega⟩
        rw [hm]
        exact Or.inr ⟨c, _, rfl, Or.inr ⟨w, rfl⟩⟩
theorem ten_blankTx {s v : List UInt8} {f i : Nat} {L : List Tok} (h : s.drop f = v) (hv : lexS f v = .ok L) (h10 : v = [] ∨ ∃ w, v = 10 :: w) : ∃ w, blankTx s f i L = 10 :: w := by
  rcases h10 with rfl | ⟨w, rfl⟩
  · have hX : L = [] := by rw [lexS_nil] at hv; injection hv with hv; exact hv.symm
    subst hX
    show ∃ w, s.drop f ++ [10, 35] = 10 :: w
    rw [h]; exact ⟨[35], rfl⟩
  · have hv2 := hv
    rw [pass_one f 10 w (by decide)] at hv2
    have hge := lexS_ge _ w (f + 1) L (Nat.le_refl _) hv2
    cases L with
    | nil =>
      show ∃ w, s.drop f ++ [10, 35] = 10 :: w
      rw [h]; exact ⟨_, rfl⟩
    | cons x L =>
      obtain ⟨a, ha, hge2, _⟩ := hge.1 x List.mem_cons_self
      show ∃ w, (s.drop f).take (x.f1.toNat - f) ++ sepOf i ++ _ = 10 :: w
      rw [h, ha, Int.toNat_natCast]
      obtain ⟨m, hm⟩ : ∃ m, a - f = m + 1 := ⟨a - f - 1, by omega⟩
      rw [hm]
      exact ⟨_, rfl⟩
theorem blank_go (s : List UInt8) : ∀ (n : Nat) (v : List UInt8) (f : Nat) (L : List Tok), v.length ≤ n → s.drop f = v → lexS f v = .ok L → ∀ (p i : Nat), f ≤ p → ∃ K, lexS p (blankTx s f i L) = .ok K ∧ MatchT L K := by
  intro n
  induction n with
  | zero =>
    intro v f L hn hd h p i hp
    have : v = [] := List.length_eq_zero_iff.1 (by omega)
    subst this
    have hX : L = [] := by rw [lexS_nil] at h; injection h with h; exact h.symm
    subst hX
    exact ⟨[], by show lexS p (s.drop f ++ [10, 35]) = _; rw [hd]; exact lexS_end p, trivial⟩
  | succ n ih =>
    intro v f L hn hd h p i hp
    by_cases hs : v = []
    · subst hs
      have hX : L = [] := by rw [lexS_nil] at h; injection h with h; exact h.symm
      subst hX
      exact ⟨[], by show lexS p (s.drop f ++ [10, 35]) = _; rw [hd]; exact lexS_end p, trivial⟩
    · rcases step_cases hs h with ⟨u, v, rfl, hu, hpa, hr⟩ | ⟨u, v, k, t, X', rfl, hu, ht, hb, rfl, hr⟩
      · rw [List.length_append] at hn
        have hge := lexS_ge _ v _ L (Nat.le_refl _) hr
        obtain ⟨K, hK, hM⟩ := ih v (f + u.length) L (by omega) (drop_u hd) hr (p + u.length) i (by omega)
        refine ⟨K, ?_, hM⟩
        rw [blankTx_pass hd hge.1, pass_by p u _ ?_]
        · exact hK
        · rcases hpa with hpa | ⟨h1, h2, h3⟩
          · exact Or.inl hpa
          · exact Or.inr ⟨h1, h2, Or.inr (ten_blankTx (drop_u hd) hr h3)⟩
      · rw [List.length_append] at hn
        have hge := lexS_ge _ v _ X' (Nat.le_refl _) hr
        obtain ⟨K, hK, hM⟩ := ih v (f + u.length) X' (by omega) (drop_u hd) hr (p + (sepOf i).length + u.length) (i + 1) (by omega)
        refine ⟨⟨(k : Nat), ((p + (sepOf i).length : Nat) : Int), bs t⟩ :: K, ?_, ⟨⟨rfl, rfl, ?_⟩, hM⟩⟩
        · show lexS p ((s.drop f).take (((f : Nat) : Int).toNat - f) ++ sepOf i ++ blankTx s ((f : Nat) : Int).toNat (i + 1) X') = _
          rw [Int.toNat_natCast, Nat.sub_self, List.take_zero, List.nil_append, lexS_sep, blankTx_pass hd hge.1, lexS_tok _ u _ k t hu (tok_swap ht (fit_blankTx (drop_u hd) hr)) (blank_head hu hb), hK]
          rfl
        · show (f : Int) ≤ ((p + (sepOf i).length : Nat) : Int)
          omega
theorem blankTx_len (s : List UInt8) : ∀ (n : Nat) (v : List UInt8) (f : Nat) (L : List Tok), v.length ≤ n → s.drop f = v → lexS f v = .ok L → ∀ (i : Nat), (blankTx s f i L).length ≤ v.length + 5 * L.length + 2 := by
  intro n
  induction n with
  | zero =>
    intro v f L hn hd h i
    have : v = [] := List.length_eq_zero_iff.1 (by omega)
    subst this
    have hX : L = [] := by rw [lexS_nil] at h; injection h with h; exact h.symm
    subst hX
    show (s.drop f ++ [10, 35]).length ≤ _
    rw [hd]; decide
  | succ n ih =>
    intro v f L hn hd h i
    by_cases hs : v = []
    · subst hs
      have hX : L = [] := by rw [lexS_nil] at h; injection h with h; exact h.symm
      subst hX
      show (s.drop f ++ [10, 35]).length ≤ _
      rw [hd]; decide
    · rcases step_cases hs h with ⟨u, v, rfl, hu, hpa, hr⟩ | ⟨u, v, k, t, X', rfl, hu, ht, hb, rfl, hr⟩
      · rw [List.length_append] at hn ⊢
        have hge := lexS_ge _ v _ L (Nat.le_refl _) hr
        have := ih v (f + u.length) L (by omega) (drop_u hd) hr i
        rw [blankTx_pass hd hge.1, List.length_append]
        omega
      · rw [List.length_append] at hn ⊢
        have hge := lexS_ge _ v _ X' (Nat.le_refl _) hr
        have := ih v (f + u.length) X' (by omega) (drop_u hd) hr (i + 1)
        have h5 := sep_len i
        show ((s.drop f).take (((f : Nat) : Int).toNat - f) ++ sepOf i ++ blankTx s ((f : Nat) : Int).toNat (i + 1) X').length ≤ _
        rw [Int.toNat_natCast, Nat.sub_self, List.take_zero, List.nil_append, blankTx_pass hd hge.1, List.length_append, List.length_append, List.length_cons]
        omega
/-- Tokens' places go up. -/
theorem lexS_sorted : ∀ (n : Nat) (v : List UInt8) (f : Nat) (L : List Tok), v.length ≤ n → lexS f v = .ok L → L.Pairwise (fun x y => x.f1 ≤ y.f1) := by
  intro n
  induction n with
  | zero =>
    intro v f L hn h
    have : v = [] := List.length_eq_zero_iff.1 (by omega)
    subst this
    have hX : L = [] := by rw [lexS_nil] at h; injection h with h; exact h.symm
    subst hX
    exact List.Pairwise.nil
  | succ n ih =>
    intro v f L hn h
    by_cases hs : v = []
    · subst hs
      have hX : L = [] := by rw [lexS_nil] at h; injection h with h; exact h.symm
      subst hX
      exact List.Pairwise.nil
    · rcases step_cases hs h with ⟨u, v, rfl, hu, hpa, hr⟩ | ⟨u, v, k, t, X', rfl, hu, ht, hb, rfl, hr⟩
      · rw [List.length_append] at hn
        exact ih v _ L (by omega) hr
      · rw [List.length_append] at hn
        have hge := lexS_ge _ v _ X' (Nat.le_refl _) hr
        refine List.Pairwise.cons (fun x hx => ?_) (ih v _ X' (by omega) hr)
        obtain ⟨a, ha, h1, _⟩ := hge.1 x hx
        rw [ha]
        show (f : Int) ≤ (a : Int)
        omega
end Go.Proofs.YtjleceekccehoaaGreatDoor.Pr
end

section
set_option linter.unusedVariables false
set_option linter.unusedSimpArgs false
namespace Go.Proofs.YtjleceekccehoaaGreatDoor.Pr
open Go.RowKit Go.Proofs.YtjleceekccehoaaGreatDoorW.PrintWords Go.Proofs.YtjleceekccehoaaGreatDoorW.PrintLast Go.Proofs.YtjleceekccehoaaGreatDoorW.PrintMore

theorem bs_cat8 (a b : List UInt8) : bs a ++ bs b = bs (a ++ b) := by
  apply ByteArray.ext
  simp [bs]
theorem lex_ok {l : List UInt8} {L : List Tok} (hl : l.length ≤ 4000) (h : lexS 0 l = .ok L) (W : World) (hW : LaidT8 W) : Calls Tryz.prog 18 #[.string (bs l)] W fun e w' => (∃ v, e = .returned (.tuple #[v, .nilIface]) ∧ Kd.R k41 41 w' W.heap.size (fun _ => True) v L) ∧ Below W.heap.size W w' := by
  have h1 := lex_any l hl W hW
  rw [h] at h1
  exact h1
theorem lex_bad {l : List UInt8} {p : Nat} (hl : l.length ≤ 4000) (h : lexS 0 l = .error p) (W : World) (hW : LaidT8 W) : Calls Tryz.prog 18 #[.string (bs l)] W fun e w' => (∃ g, e = .returned (.tuple #[.slice none 0 0, .iface 61 (.pointer (some ⟨g, 0, none⟩))])) ∧ Below W.heap.size W w' := by
  have h1 := lex_any l hl W hW
  rw [h] at h1
  exact h1.mono (fun e w' h => ⟨by obtain ⟨g, he, _⟩ := h.1; exact ⟨g, he⟩, h.2⟩)
set_option maxHeartbeats 4000000 in
set_option maxRecDepth 100000 in
theorem blank_long (s : List UInt8) (h : 400 < s.length) (w : World) (hX : LaidW w) : Calls Tryz.prog 6 #[.string (bs s)] w fun e w' => e = .returned (.bool true) ∧ Below w.heap.size w w' := by
  have HX := Aside0.mk hX
  have sa := bs_size s
  have a1 : (s.length : Int) > 400 := by omega
  clear h hX
  go_enter Tryz.func6, Tryz.ntmps6
  go_wp2_with fail
  refine (awake8_any _ HX.out).mono ?_
  rintro e_ w1 ⟨rfl, hb1⟩
  have HB1 := Aside0.mk hb1
  clear hb1
  go_wp2_with fail
  go_ret
  exact ⟨by first | rfl | simp, HB1.out⟩
set_option maxHeartbeats 4000000 in
set_option maxRecDepth 100000 in
theorem blank_bad (s : List UInt8) (h : s.length ≤ 400) (p : Nat) (hp : lexS 0 s = .error p) (w : World) (hX : LaidW w) : Calls Tryz.prog 6 #[.string (bs s)] w fun e w' => e = .returned (.bool true) ∧ Below w.heap.size w w' := by
  have HX := Aside0.mk hX
  have sa := bs_size s
  have a1 : ((s.length : Int) > 400) = False := eq_false (by omega)
  have HA := Aside0.mk (fun W hW => lex_bad (l := s) (by omega) hp W hW)
  clear h hX hp
  go_enter Tryz.func6, Tryz.ntmps6
  go_wp2_with fail
  refine (awake8_any _ HX.out).mono ?_
  rintro e_ w1 ⟨rfl, hb1⟩
  have HB1 := Aside0.mk hb1
  clear hb1
  go_wp2_with fail
  refine (HA.out _ (HX.out.t.below HB1.out)).mono ?_
  rintro e_ w2 ⟨⟨g, rfl⟩, hb2⟩
  have HB2 := Aside0.mk (below_step HB1.out hb2)
  clear hb2
  go_wp2_with fail
  go_ret
  exact ⟨by first | rfl | simp, HB2.out⟩
/-- What is matched, token by token. -/
theorem match_len : ∀ (L K : List Tok), MatchT L K → K.length = L.length := by
  intro L
  induction L with
  | nil => intro K h; cases K with
    | nil => rfl
    | cons y K => exact h.elim
  | cons x L ih => intro K h; cases K with
    | nil => exact h.elim
    | cons y K => rw [List.length_cons, List.length_cons, ih K h.2]
theorem match_at : ∀ (L K : List Tok), MatchT L K → ∀ (j : Nat) (x y : Tok), L[j]? = some x → K[j]? = some y → y.f0 = x.f0 ∧ y.f2 = x.f2 ∧ x.f1 ≤ y.f1 := by
  intro L
  induction L with
  | nil => intro K h j x y hx; simp at hx
  | cons x L ih => intro K h; cases K with
    | nil => exact h.elim
    | cons y K =>
      intro j a b ha hb
      cases j with
      | zero =>
        have e1 : x = a := by simpa using ha
        have e2 : y = b := by simpa using hb
        subst e1; subst e2
        exact h.1
      | succ j => exact ih K h.2 j a b (by simpa using ha) (by simpa using hb)
end Go.Proofs.YtjleceekccehoaaGreatDoor.Pr
end
