/- Span, plain: the text of a span is parsed to it; the document's Text and Parse are textS and parseS. -/
import Derived.Test.YtpjbllkifjhknaaDoorSpanT
set_option linter.unusedVariables false
set_option linter.unusedSimpArgs false
namespace Go.Proofs.YtpjbllkifjhknaaDoor.Pr
open Go.RowKit Go.Proofs.YtpjbllkifjhknaaDoorW.PrintWords

/-! ### Digits -/
theorem toNat_dig (d : Nat) (h : d < 10) : (UInt8.ofNat (48 + d)).toNat = 48 + d := by
  rw [UInt8.toNat_ofNat']; omega
theorem numR_dig (most : Int) (d : Nat) (hd : d < 10) (r : List UInt8) (n : Int) (hn : n ≤ most) : numR most (UInt8.ofNat (48 + d) :: r) n = numR most r (10 * n + d) := by
  have h := toNat_dig d hd
  rw [numR, h, if_neg (by omega), if_neg (by omega)]
  congr 1
  omega
theorem numR_dec (most : Int) (h0 : 0 ≤ most) (u : Nat) : (u : Int) ≤ most → ∀ r, numR most (Lib.decDigits u ++ r) 0 = numR most r u := by
  induction u using Nat.strongRecOn with
  | _ u ih =>
    intro hu r
    by_cases h : u < 10
    · rw [Lib.decDigits, dif_pos h]
      show numR most (UInt8.ofNat (48 + u) :: r) 0 = _
      rw [numR_dig most u h r 0 h0]
      congr 1
      omega
    · rw [Lib.decDigits, dif_neg h, List.append_assoc, ih (u / 10) (by omega) (by omega)]
      show numR most (UInt8.ofNat (48 + u % 10) :: r) _ = _
      rw [numR_dig most _ (by omega) r _ (by omega)]
      congr 1
      omega
theorem numR_stop (most : Int) (c : UInt8) (r : List UInt8) (n : Int) (hc : (c.toNat : Int) < 48 ∨ (c.toNat : Int) > 57) : numR most (c :: r) n = some (n, c :: r) := by rw [numR, if_pos hc]
theorem dec_head (u : Nat) : ∃ d t, d < 10 ∧ Lib.decDigits u = UInt8.ofNat (48 + d) :: t := by
  induction u using Nat.strongRecOn with
  | _ u ih =>
    by_cases h : u < 10
    · exact ⟨u, [], h, by rw [Lib.decDigits, dif_pos h]⟩
    · obtain ⟨d, t, hd, e⟩ := ih (u / 10) (by omega)
      exact ⟨d, t ++ [UInt8.ofNat (48 + u % 10)], hd, by rw [Lib.decDigits, dif_neg h, e]; rfl⟩
def DigHead (r : List UInt8) : Prop := r = [] ∨ ∃ d t, d < 10 ∧ r = UInt8.ofNat (48 + d) :: t
theorem itoa_head (q : Int) (h : 0 ≤ q) : ∃ d t, d < 10 ∧ Lib.itoa q = UInt8.ofNat (48 + d) :: t := by
  obtain ⟨u, rfl⟩ : ∃ u : Nat, q = u := ⟨q.toNat, by omega⟩
  rw [Lib.itoa_nonneg]
  exact dec_head u
theorem numS_text (q : Int) (h0 : 0 ≤ q) (h1 : q ≤ MaxSpan) (c : UInt8) (r : List UInt8) (hc : (c.toNat : Int) < 48 ∨ (c.toNat : Int) > 57) : numS MaxSpan (Lib.itoa q ++ c :: r) = (q, c :: r, true) := by
  obtain ⟨u, rfl⟩ : ∃ u : Nat, q = u := ⟨q.toNat, by omega⟩
  obtain ⟨d, t, hd, e⟩ := itoa_head (u : Int) h0
  have h := numR_dec MaxSpan (by unfold MaxSpan; omega) u h1 (c :: r)
  rw [← Lib.itoa_nonneg] at h
  unfold numS
  rw [h, numR_stop _ _ _ _ hc]
  rw [e]
  simp [h1]
  omega
theorem uset_dig : ∀ d : Nat, d < 10 → uset.contains (UInt8.ofNat (48 + d)) = false := by
  intro d h
  have h := toNat_dig d h
  apply Bool.eq_false_iff.mpr
  intro hc
  simp only [uset, List.contains_cons, List.contains_nil, Bool.or_false, Bool.or_eq_true, beq_iff_eq] at hc
  rcases hc with hc | hc | hc | hc | hc | hc <;> (rw [hc] at h; simp at h; omega)
theorem digHead_take {r : List UInt8} (h : DigHead r) : r.takeWhile (uset.contains ·) = [] ∧ r.dropWhile (uset.contains ·) = r := by
  rcases h with rfl | ⟨d, t, hd, rfl⟩
  · simp
  · have := uset_dig d hd
    rw [List.takeWhile_cons, List.dropWhile_cons]
    simp only [this]
    simp
def nameOf (k : Nat) : List UInt8 := [[121], [119], [100], [104], [109], [115], [109, 115]].getD k []
theorem named_text (k : Nat) (hk : k < 7) {r : List UInt8} (h : DigHead r) : namedS (nameOf k ++ r) = ((k : Int), r) := by
  obtain ⟨h1, h2⟩ := digHead_take h
  have hk' : k = 0 ∨ k = 1 ∨ k = 2 ∨ k = 3 ∨ k = 4 ∨ k = 5 ∨ k = 6 := by omega
  rcases hk' with rfl | rfl | rfl | rfl | rfl | rfl | rfl <;>
    (unfold namedS
     simp only [nameOf, List.getD_cons_zero, List.getD_cons_succ, List.cons_append, List.nil_append, List.takeWhile_cons, List.dropWhile_cons, h1, h2]
     simp [uset, unitOf, h1, h2]
     done)
theorem name_cons (k : Nat) (hk : k < 7) : ∃ c t, nameOf k = c :: t ∧ ((c.toNat : Int) < 48 ∨ (c.toNat : Int) > 57) ∧ t.length ≤ 1 := by
  have hk' : k = 0 ∨ k = 1 ∨ k = 2 ∨ k = 3 ∨ k = 4 ∨ k = 5 ∨ k = 6 := by omega
  rcases hk' with rfl | rfl | rfl | rfl | rfl | rfl | rfl <;> exact ⟨_, _, rfl, .inr (by decide), by decide⟩
theorem long_pos (k : Nat) : 1 ≤ longOf k := by
  unfold longOf
  match k with
  | 0 | 1 | 2 | 3 | 4 | 5 | 6 => decide
  | k + 7 => simp

/-! ### Parse: fuel, and one step -/
theorem parseR_fuel : ∀ (f f' : Nat) (l : List UInt8) (s n : Int), l.length < f → l.length < f' → parseR f l s n = parseR f' l s n
  | 0, _, _, _, _, h, _ => absurd h (Nat.not_lt_zero _)
  | _ + 1, 0, _, _, _, _, h => absurd h (Nat.not_lt_zero _)
  | f + 1, g + 1, l, s, n, h, h' => by
    unfold parseR
    by_cases hl : l = []
    · rw [if_pos hl, if_pos hl]
    · rw [if_neg hl, if_neg hl]
      split
      · rfl
      · rename_i hc
        have hok : (numS MaxSpan l).2.2 = true := by
          cases h2 : (numS MaxSpan l).2.2 with
          | true => rfl
          | false => exact absurd (.inl h2) hc
        have h3 := numS_ok MaxSpan l hok
        have h4 := named_len (numS MaxSpan l).2.1
        exact parseR_fuel f g _ _ _ (by omega) (by omega)
theorem parse_step (f : Nat) (l : List UInt8) (s n : Int) (hl : l ≠ []) (h : l.length < f) : parseR f l s n =
    if (numS MaxSpan l).2.2 = false ∨ (namedS (numS MaxSpan l).2.1).1 < n ∨ (numS MaxSpan l).1 > (MaxSpan - s).tdiv (longOf (namedS (numS MaxSpan l).2.1).1.toNat) then none
    else parseR f (namedS (numS MaxSpan l).2.1).2 (s + (numS MaxSpan l).1 * longOf (namedS (numS MaxSpan l).2.1).1.toNat) ((namedS (numS MaxSpan l).2.1).1 + 1) := by
  obtain ⟨g, rfl⟩ : ∃ g, f = g + 1 := ⟨f - 1, by omega⟩
  rw [parseR, if_neg hl]
  split
  · rfl
  · rename_i hc
    have hok : (numS MaxSpan l).2.2 = true := by
      cases h2 : (numS MaxSpan l).2.2 with
      | true => rfl
      | false => exact absurd (.inl h2) hc
    have h3 := numS_ok MaxSpan l hok
    have h4 := named_len (numS MaxSpan l).2.1
    exact parseR_fuel g (g + 1) _ _ _ (by omega) (by omega)

/-! ### Text, by a list of units -/
def textL : List Nat → Int → List UInt8
  | [], _ => []
  | k :: us, u => (if u.tdiv (longOf k) > 0 then Lib.itoa (u.tdiv (longOf k)) ++ nameOf k else []) ++ textL us (u.tmod (longOf k))
def remL : List Nat → Int → Int
  | [], u => u
  | k :: us, u => remL us (u.tmod (longOf k))
theorem textR_eq : ∀ (us : List Nat) (v : Int) (out : List UInt8), textR (us.map fun k => (nameOf k, longOf k)) v out = out ++ textL us v
  | [], v, out => by simp [textR, textL]
  | k :: us, v, out => by
    rw [List.map_cons, textR, textR_eq us, textL]
    split
    · rw [List.append_assoc]
    · rw [List.nil_append]
theorem textS_pos (v : Int) (h0 : 0 < v) (h1 : v ≤ 35184372088832) : textS v = some (textL [0, 1, 2, 3, 4, 5, 6] v) := by
  unfold textS
  rw [if_neg (by omega), if_neg (by omega)]
  exact congrArg some (textR_eq [0, 1, 2, 3, 4, 5, 6] v [])
theorem div_parts (u L : Int) (h : 0 ≤ u) (hL : 1 ≤ L) : 0 ≤ u.tdiv L ∧ 0 ≤ u.tmod L ∧ u = u.tdiv L * L + u.tmod L ∧ u.tdiv L ≤ u ∧ u.tmod L ≤ u := by
  have h1 : 0 ≤ u.tdiv L := Int.tdiv_nonneg h (by omega)
  have h2 : 0 ≤ u.tmod L := Int.tmod_nonneg L h
  have h3 : u.tdiv L * L + u.tmod L = u := Int.tdiv_mul_add_tmod u L
  have h4 : u.tdiv L * 1 ≤ u.tdiv L * L := Int.mul_le_mul_of_nonneg_left hL h1
  exact ⟨h1, h2, h3.symm, by omega, by omega⟩
theorem textL_head : ∀ (us : List Nat) (u : Int) (rest : List UInt8), 0 ≤ u → DigHead rest → DigHead (textL us u ++ rest)
  | [], u, rest, _, h => h
  | k :: us, u, rest, h0, h => by
    obtain ⟨h1, h2, h3, h4, h5⟩ := div_parts u (longOf k) h0 (long_pos k)
    unfold textL
    split
    · obtain ⟨d, t, hd, e⟩ := itoa_head _ h1
      exact .inr ⟨d, t ++ nameOf k ++ textL us (u.tmod (longOf k)) ++ rest, hd, by rw [e]; simp⟩
    · exact textL_head us _ rest h2 h
theorem parse_textL : ∀ (us : List Nat) (u s : Int) (n B : Nat) (rest : List UInt8) (f : Nat), us.Pairwise (· < ·) → (∀ k ∈ us, n ≤ k ∧ k < 7 ∧ k < B) → n ≤ B → DigHead rest → 0 ≤ u → 0 ≤ s → s + u ≤ MaxSpan → (textL us u ++ rest).length < f →
    ∃ n' : Nat, n ≤ n' ∧ n' ≤ B ∧ parseR f (textL us u ++ rest) s n = parseR f rest (s + (u - remL us u)) n'
  | [], u, s, n, B, rest, f, _, _, hB, _, _, _, _, _ => ⟨n, Nat.le_refl _, hB, by simp [textL, remL]⟩
  | k :: us, u, s, n, B, rest, f, hp, hk, hB, hr, h0, hs, hm, hf => by
    obtain ⟨h1, h2, h3, h4, h5⟩ := div_parts u (longOf k) h0 (long_pos k)
    have hk0 := hk k (by simp)
    have hL := long_pos k
    rw [List.pairwise_cons] at hp
    have hd := textL_head us (u.tmod (longOf k)) rest h2 hr
    unfold textL at hf ⊢
    unfold remL
    by_cases hq : u.tdiv (longOf k) > 0
    · rw [if_pos hq] at hf ⊢
      generalize u.tdiv (longOf k) = q at *
      generalize u.tmod (longOf k) = m at *
      rw [List.append_assoc, List.append_assoc] at hf ⊢
      obtain ⟨c, t, e, hc, ht⟩ := name_cons k hk0.2.1
      have hn : numS MaxSpan (Lib.itoa q ++ (nameOf k ++ (textL us m ++ rest))) = (q, nameOf k ++ (textL us m ++ rest), true) := by
        rw [e, List.cons_append]
        exact numS_text q h1 (by omega) c _ hc
      obtain ⟨d, t2, hd2, e2⟩ := itoa_head q h1
      have hlen : (textL us m ++ rest).length < f := by
        simp only [List.length_append] at hf ⊢
        omega
      have hcond : ¬ q > (MaxSpan - s).tdiv (longOf k) := by
        rw [Int.tdiv_eq_ediv_of_nonneg (by omega)]
        have : q ≤ (MaxSpan - s) / longOf k := by
          rw [Int.le_ediv_iff_mul_le (by omega)]
          omega
        omega
      rw [parse_step f _ s n (by rw [e2]; simp) hf, hn]
      dsimp only
      rw [named_text k hk0.2.1 hd]
      dsimp only
      rw [if_neg (by
        rintro (h | h | h)
        · cases h
        · omega
        · exact hcond h)]
      obtain ⟨n', hn1, hn2, hn3⟩ := parse_textL us m (s + q * longOf k) (k + 1) B rest f hp.2 (fun j hj => ⟨hp.1 j hj, (hk j (by simp [hj])).2⟩) (by omega) hr h2 (by have := Int.mul_nonneg h1 (by omega : (0 : Int) ≤ longOf k); omega) (by omega) hlen
      refine ⟨n', by omega, hn2, ?_⟩
      have e3 : ((k : Int)).toNat = k := by omega
      rw [e3]
      have e4 : ((k : Int) + 1) = ((k + 1 : Nat) : Int) := by omega
      rw [e4, hn3]
      congr 1
      omega
    · rw [if_neg hq] at hf ⊢
      have hz : u.tdiv (longOf k) = 0 := by omega
      rw [hz] at h3
      have hmu : u.tmod (longOf k) = u := by omega
      rw [hmu] at hf ⊢
      exact parse_textL us u s n B rest f hp.2 (fun j hj => ⟨by have := hp.1 j hj; omega, (hk j (by simp [hj])).2⟩) hB hr h0 hs hm hf
theorem textL_nil : ∀ (us : List Nat) (u : Int), (∀ k ∈ us, k < 7) → 0 ≤ u → textL us u = [] → remL us u = u
  | [], u, _, _, _ => rfl
  | k :: us, u, hk, h0, h => by
    obtain ⟨h1, h2, h3, h4, h5⟩ := div_parts u (longOf k) h0 (long_pos k)
    unfold textL at h
    unfold remL
    by_cases hq : u.tdiv (longOf k) > 0
    · rw [if_pos hq] at h
      obtain ⟨d, t2, hd2, e2⟩ := itoa_head _ h1
      rw [e2] at h
      simp at h
    · rw [if_neg hq] at h
      have hz : u.tdiv (longOf k) = 0 := by omega
      rw [hz] at h3
      have hmu : u.tmod (longOf k) = u := by omega
      rw [hmu] at h ⊢
      exact textL_nil us u (fun j hj => hk j (by simp [hj])) h0 (by simpa using h)
theorem textL_len : ∀ (us : List Nat) (u : Int), (∀ k ∈ us, k < 7) → 0 ≤ u → u ≤ MaxSpan → (textL us u).length ≤ us.length * 23
  | [], u, _, _, _ => by simp [textL]
  | k :: us, u, hk, h0, h1' => by
    obtain ⟨h1, h2, h3, h4, h5⟩ := div_parts u (longOf k) h0 (long_pos k)
    unfold textL
    have ih := textL_len us (u.tmod (longOf k)) (fun j hj => hk j (by simp [hj])) h2 (by omega)
    obtain ⟨c, t, e, hc, ht⟩ := name_cons k (hk k (by simp))
    have h6 := Lib.itoa_length_le (u.tdiv (longOf k)) (by omega) (by unfold MaxSpan at h1'; omega)
    rw [List.length_append, List.length_cons]
    split
    · rw [List.length_append, e, List.length_cons]; omega
    · simp only [List.length_nil]; omega
/-- The text of a span is parsed to it. -/
theorem parse_text (v : Int) (h0 : 0 ≤ v) (h1 : v ≤ 35184372088832) : parseS ((textS v).getD []) = some v := by
  by_cases hz : v = 0
  · subst hz
    rfl
  · rw [textS_pos v (by omega) h1]
    show parseS (textL _ v) = _
    have hne : textL [0, 1, 2, 3, 4, 5, 6] v ≠ [] := fun h => by
      have h2 := textL_nil _ v (by decide) h0 h
      simp only [remL, longOf, List.getD_cons_succ, List.getD_cons_zero, Int.tmod_one] at h2
      omega
    have hlen := textL_len [0, 1, 2, 3, 4, 5, 6] v (by decide) h0 h1
    obtain ⟨n', _, _, h3⟩ := parse_textL [0, 1, 2, 3, 4, 5, 6] v 0 0 7 [] ((textL [0, 1, 2, 3, 4, 5, 6] v).length + 1) (by decide) (by decide) (by decide) (.inl rfl) h0 (by decide) (by unfold MaxSpan; omega) (by simp)
    unfold parseS
    rw [if_neg (by rintro (h | h); exact hne h; simp only [List.length_cons, List.length_nil] at hlen; omega)]
    rw [List.append_nil] at h3
    have e0 : ((0 : Nat) : Int) = 0 := rfl
    rw [e0] at h3
    rw [h3, parseR, if_pos rfl]
    simp only [remL, longOf, List.getD_cons_succ, List.getD_cons_zero, Int.tmod_one]
    congr 1
    omega

end Go.Proofs.YtpjbllkifjhknaaDoor.Pr
