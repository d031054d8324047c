/- Texts of this session, cut down to what one claim needs and joined: LexPp, LexRt0. -/
import Derived.Test.YtjleceekccehoaaGreatDoorVGJ17
import Derived.Test.YtjleceekccehoaaGreatDoorVPrSoundingsref07Parse
import Derived.Test.YtjleceekccehoaaGreatDoorVGJ23
section
set_option linter.unusedVariables false
set_option linter.unusedSimpArgs false
namespace Go.Proofs.YtjleceekccehoaaGreatDoor.Pr
open Go.RowKit Go.Proofs.YtjleceekccehoaaGreatDoorW.PrintWords

def nameOf (k : Nat) : List UInt8 := [[121], [119], [100], [104], [109], [115], [109, 115]].getD k []
theorem long_pos (k : Nat) : 1 ≤ longOf k := by
 unfold longOf
 match k with
 | 0 | 1 | 2 | 3 | 4 | 5 | 6 => decide
 | k + 7 => simp

/-! ### Parse: fuel, and one step -/
theorem parseR_fuel : ∀ (f f' : Nat) (l : List UInt8) (s n : Int), l.length < f → l.length < f' → parseR f l s n = parseR f' l s n
 | 0, _, _, _, _, h, _ => absurd h (Nat.not_lt_zero _)
 | _ + 1, 0, _, _, _, _, h => absurd h (Nat.not_lt_zero _)
 | f + 1, g + 1, l, s, n, h, h' => by
  unfold parseR
  by_cases hl : l = []
  ·rw [if_pos hl, if_pos hl]
  ·rw [if_neg hl, if_neg hl]
   split
   ·rfl
   ·rename_i hc
    have hok : (numS MaxSpan l).2.2 = true := by
     cases h2 : (numS MaxSpan l).2.2 with
     | true => rfl
     | false => exact absurd (.inl h2) hc
    have h3 := numS_ok MaxSpan l hok
    have h4 := named_len (numS MaxSpan l).2.1
    exact parseR_fuel f g _ _ _ (by omega) (by omega)
theorem parse_step (f : Nat) (l : List UInt8) (s n : Int) (hl : l ≠ []) (h : l.length < f) : parseR f l s n =
  if (numS MaxSpan l).2.2 = false ∨ (namedS (numS MaxSpan l).2.1).1 < n ∨ (numS MaxSpan l).1 > (MaxSpan - s).tdiv (longOf (namedS (numS MaxSpan l).2.1).1.toNat) then none
  else parseR f (namedS (numS MaxSpan l).2.1).2 (s + (numS MaxSpan l).1 * longOf (namedS (numS MaxSpan l).2.1).1.toNat) ((namedS (numS MaxSpan l).2.1).1 + 1) := by
 obtain ⟨g, rfl⟩ : ∃ g, f = g + 1 := ⟨f - 1, by omega⟩
 rw [parseR, if_neg hl]
 split
 ·rfl
 ·rename_i hc
  have hok : (numS MaxSpan l).2.2 = true := by
   cases h2 : (numS MaxSpan l).2.2 with
   | true => rfl
   | false => exact absurd (.inl h2) hc
  have h3 := numS_ok MaxSpan l hok
  have h4 := named_len (numS MaxSpan l).2.1
  exact parseR_fuel g (g + 1) _ _ _ (by omega) (by omega)

/-! ### Text, by a list of units -/
theorem rd_long (i : Nat) (h : i < 7) : rd [31536000000, 604800000, 86400000, 3600000, 60000, 1000, 1] (i : Int) = longOf i := by
 have hk' : i = 0 ∨ i = 1 ∨ i = 2 ∨ i = 3 ∨ i = 4 ∨ i = 5 ∨ i = 6 := by omega
 rcases hk' with rfl | rfl | rfl | rfl | rfl | rfl | rfl <;> rfl
theorem rd_name (i : Nat) (h : i < 7) : rdOf ByteArray.empty [(⟨#[121]⟩ : ByteArray), (⟨#[119]⟩ : ByteArray), (⟨#[100]⟩ : ByteArray), (⟨#[104]⟩ : ByteArray), (⟨#[109]⟩ : ByteArray), (⟨#[115]⟩ : ByteArray), (⟨#[109, 115]⟩ : ByteArray)] (i : Int) = bs (nameOf i) := by
 have hk' : i = 0 ∨ i = 1 ∨ i = 2 ∨ i = 3 ∨ i = 4 ∨ i = 5 ∨ i = 6 := by omega
 rcases hk' with rfl | rfl | rfl | rfl | rfl | rfl | rfl <;> rfl
theorem bs_toList (l : List UInt8) : (bs l).toList = l := by rw [Lib.toList_data]; rfl
def isD (c : UInt8) : Bool := decide (48 ≤ c.toNat) && decide (c.toNat ≤ 57)
theorem isD_iff (c : UInt8) : isD c = true ↔ 48 ≤ c.toNat ∧ c.toNat ≤ 57 := by simp [isD]
def satStep (n : Int) (c : UInt8) : Int := if 10 * n + (c.toNat - 48) > 35184372088833 then 35184372088833 else 10 * n + (c.toNat - 48)
def valStep (n : Int) (c : UInt8) : Int := 10 * n + (c.toNat - 48)
theorem drop_cons {s : List UInt8} {at_ : Nat} {c : UInt8} {r : List UInt8} (h : s.drop at_ = c :: r) : ∃ hlt : at_ < s.length, s[at_] = c ∧ s.drop (at_ + 1) = r := by
 have hlt : at_ < s.length := by
  rcases Nat.lt_or_ge at_ s.length with h' | h'
  ·exact h'
  ·rw [List.drop_eq_nil_of_le h'] at h; cases h
 rw [List.drop_eq_getElem_cons hlt] at h
 exact ⟨hlt, (List.cons.inj h).1, (List.cons.inj h).2⟩
theorem drop_nil {s : List UInt8} {at_ : Nat} (h : s.drop at_ = []) : s.length ≤ at_ := by simpa using h
theorem satStep_le (n : Int) (h : 0 ≤ n) (c : UInt8) (hc : isD c = true) : 0 ≤ satStep n c ∧ satStep n c ≤ 35184372088833 := by
 rw [isD_iff] at hc
 unfold satStep
 split <;> omega

theorem part_l0 (s : List UInt8) (hs : s.length ≤ 1000000) (K fr : Nat) : ∀ (l : List UInt8) (at_ : Nat) (n : Int), s.drop at_ = l → at_ ≤ s.length → 0 ≤ n → n ≤ 35184372088833 →
  soundingsref07_part.l0 (K + 2 * (l.takeWhile isD).length + 2) (bs s) (at_ : Int) n (fr : Int) = soundingsref07_part.l1 K (bs s) ((at_ + (l.takeWhile isD).length : Nat) : Int) ((l.takeWhile isD).foldl satStep n) (fr : Int) ((at_ + (l.takeWhile isD).length : Nat) : Int)
 | [], at_, n, hd, ha, h0, h1 => by
  have := drop_nil hd
  simp only [List.takeWhile_nil, List.length_nil, Nat.mul_zero, Nat.add_zero, List.foldl_nil]
  simp only [soundingsref07_part.l0, soundingsref07_part.j1]
  rw [bs_size, if_neg (by omega), if_neg (by simp)]
 | c :: r, at_, n, hd, ha, h0, h1 => by
  obtain ⟨hlt, hc, hr⟩ := drop_cons hd
  have hbt : bt (bs s) (at_ : Int) = (c.toNat : Int) := by rw [bs_at s at_ hlt, hc]
  have hc2 : c.toNat < 256 := c.toNat_lt
  by_cases hD : isD c = true
  ·rw [List.takeWhile_cons, if_pos hD, List.length_cons, List.foldl_cons]
   have hD2 := (isD_iff c).1 hD
   have hs2 := satStep_le n h0 c hD
   have hw : wrap64 ((at_ : Int) + 1) = ((at_ + 1 : Nat) : Int) := by unfold wrap64; omega
   have hw2 : wrap64 ((wrap64 (10 * n)) + (((c.toNat : Int) - 48) % 256)) = 10 * n + (c.toNat - 48) := by unfold wrap64; omega
   have ih := part_l0 s hs K fr r (at_ + 1) (satStep n c) hr (by omega) hs2.1 hs2.2
   have e : K + 2 * ((r.takeWhile isD).length + 1) + 2 = (K + 2 * (r.takeWhile isD).length + 2) + 1 + 1 := by omega
   rw [e]
   unfold soundingsref07_part.l0
   unfold soundingsref07_part.j1
   rw [hbt, bs_size, hw, hw2, if_pos (by omega), if_pos (by omega), if_pos (by omega), decide_eq_true (by omega : (c.toNat : Int) ≤ 57), if_pos rfl, if_pos (by omega), if_pos (by omega)]
   have e2 : at_ + ((r.takeWhile isD).length + 1) = at_ + 1 + (r.takeWhile isD).length := by omega
   rw [e2, ← ih]
   unfold satStep
   split <;> rfl
  ·rw [List.takeWhile_cons, if_neg hD]
   simp only [List.length_nil, Nat.mul_zero, Nat.add_zero, List.foldl_nil]
   unfold soundingsref07_part.l0
   unfold soundingsref07_part.j1
   rw [hbt, bs_size, if_pos (by omega), if_pos (by omega)]
   rw [isD_iff] at hD
   by_cases h48 : (c.toNat : Int) ≥ 48
   ·rw [if_pos h48, decide_eq_false (by omega : ¬ (c.toNat : Int) ≤ 57), if_neg (by simp)]
   ·rw [if_neg h48, if_neg (by simp)]
theorem part_l1 (s : List UInt8) (hs : s.length ≤ 1000000) (K fr a : Nat) (n : Int) : ∀ (l : List UInt8) (tt_ : Nat), s.drop tt_ = l → tt_ ≤ s.length →
  soundingsref07_part.l1 (K + (l.takeWhile (!isD ·)).length + 1) (bs s) (a : Int) n (fr : Int) (tt_ : Int) = soundingsref07_part.j3 K (bs s) (a : Int) n (fr : Int) ((tt_ + (l.takeWhile (!isD ·)).length : Nat) : Int)
 | [], tt_, hd, ha => by
  have := drop_nil hd
  simp only [List.takeWhile_nil, List.length_nil, Nat.add_zero]
  unfold soundingsref07_part.l1
  rw [bs_size, if_neg (by omega)]
 | c :: r, tt_, hd, ha => by
  obtain ⟨hlt, hc, hr⟩ := drop_cons hd
  have hbt : bt (bs s) (tt_ : Int) = (c.toNat : Int) := by rw [bs_at s tt_ hlt, hc]
  have hc2 : c.toNat < 256 := c.toNat_lt
  have hw : wrap64 ((tt_ : Int) + 1) = ((tt_ + 1 : Nat) : Int) := by unfold wrap64; omega
  by_cases hD : isD c = true
  ·rw [List.takeWhile_cons, if_neg (by simp [hD])]
   simp only [List.length_nil, Nat.add_zero]
   rw [isD_iff] at hD
   unfold soundingsref07_part.l1
   rw [hbt, bs_size, if_pos (by omega), if_pos (by omega), if_neg (by omega), if_neg (by omega)]
  ·have ih := part_l1 s hs K fr a n r (tt_ + 1) hr (by omega)
   rw [List.takeWhile_cons, if_pos (by simp [hD]), List.length_cons]
   rw [isD_iff] at hD
   have e : K + ((r.takeWhile (!isD ·)).length + 1) + 1 = (K + (r.takeWhile (!isD ·)).length + 1) + 1 := by omega
   have e2 : tt_ + ((r.takeWhile (!isD ·)).length + 1) = tt_ + 1 + (r.takeWhile (!isD ·)).length := by omega
   rw [e, e2, ← ih]
   conv => lhs; unfold soundingsref07_part.l1
   rw [hbt, bs_size, hw, if_pos (by omega), if_pos (by omega)]
   by_cases h48 : (c.toNat : Int) < 48
   ·rw [if_pos h48]
   ·rw [if_neg h48, if_pos (by omega)]
theorem bs_extract (s : List UInt8) (a b : Nat) : ((bs s).extract a b).toList = (s.drop a).take (b - a) := by
 rw [Lib.toList_data]
 simp [bs]
def unitAns (n : Int) (tt_ : Nat) (ok : Bool) (nm : List UInt8) : Int × Int × Int × Bool := if ok = true ∧ unitOf nm ≠ -1 then (n, unitOf nm, (tt_ : Int), true) else (0, 0, 0, false)
theorem part_l2 (s : List UInt8) (K fr a tt_ : Nat) (n : Int) (h1 : a ≤ tt_) (h2 : tt_ ≤ s.length) (nm : List UInt8) (hnm : (s.drop a).take (tt_ - a) = nm) (hs : s.length ≤ 1000000) :
  soundingsref07_part.j3 (K + 9) (bs s) (a : Int) n (fr : Int) (tt_ : Int) = some (unitAns n tt_ (decide (fr < a)) nm) := by
 unfold soundingsref07_part.j3
 simp only [soundingsref07_Units.f, Option.bind_some]
 have he : ((bs s).extract ((a : Int)).toNat ((tt_ : Int)).toNat).toList = nm := by rw [Int.toNat_natCast, Int.toNat_natCast, bs_extract, hnm]
 have st : ∀ (k i : Nat), i < 7 → soundingsref07_part.l2 (k + 1) (bs s) (a : Int) n (fr : Int) (tt_ : Int) [(⟨#[121]⟩ : ByteArray), (⟨#[119]⟩ : ByteArray), (⟨#[100]⟩ : ByteArray), (⟨#[104]⟩ : ByteArray), (⟨#[109]⟩ : ByteArray), (⟨#[115]⟩ : ByteArray), (⟨#[109, 115]⟩ : ByteArray)] (i : Int) = if fr < a ∧ nm = nameOf i then some (n, (i : Int), (tt_ : Int), true) else soundingsref07_part.l2 k (bs s) (a : Int) n (fr : Int) (tt_ : Int) [(⟨#[121]⟩ : ByteArray), (⟨#[119]⟩ : ByteArray), (⟨#[100]⟩ : ByteArray), (⟨#[104]⟩ : ByteArray), (⟨#[109]⟩ : ByteArray), (⟨#[115]⟩ : ByteArray), (⟨#[109, 115]⟩ : ByteArray)] ((i + 1 : Nat) : Int) := by
  intro k i hi
  have hw : wrap64 ((i : Int) + 1) = ((i + 1 : Nat) : Int) := by unfold wrap64; omega
  conv => lhs; unfold soundingsref07_part.l2
  rw [if_pos (by simp only [List.length_cons, List.length_nil]; omega), he, rd_name i hi, bs_toList, hw]
  by_cases hf : fr < a
  ·rw [if_pos (by omega), if_pos (by omega), if_pos (by omega), if_pos (by rw [bs_size]; omega), if_pos (by omega)]
   by_cases hn : nm = nameOf i
   ·rw [if_pos hn, if_pos ⟨hf, hn⟩]
   ·rw [if_neg hn, if_neg (fun h => hn h.2)]
  ·rw [if_neg (by omega), if_neg (fun h => hf h.1)]
 have e0 : (0 : Int) = ((0 : Nat) : Int) := rfl
 rw [show K + 8 = K + 7 + 1 from rfl, e0, st _ 0 (by omega), st _ 1 (by omega), st _ 2 (by omega), st _ 3 (by omega), st _ 4 (by omega), st _ 5 (by omega), st _ 6 (by omega)]
 unfold soundingsref07_part.l2
 rw [if_neg (show ¬ (((6 + 1 : Nat) : Int) < (([(⟨#[121]⟩ : ByteArray), (⟨#[119]⟩ : ByteArray), (⟨#[100]⟩ : ByteArray), (⟨#[104]⟩ : ByteArray), (⟨#[109]⟩ : ByteArray), (⟨#[115]⟩ : ByteArray), (⟨#[109, 115]⟩ : ByteArray)] : List ByteArray).length : Int)) by decide)]
 unfold unitAns unitOf nameOf
 by_cases hf : fr < a
 ·simp only [hf, decide_true, true_and, List.getD_cons_zero, List.getD_cons_succ]
  by_cases g0 : nm = [121]
  ·simp [g0]
  by_cases g1 : nm = [119]
  ·simp [g1]
  by_cases g2 : nm = [100]
  ·simp [g2]
  by_cases g3 : nm = [104]
  ·simp [g3]
  by_cases g4 : nm = [109]
  ·simp [g4]
  by_cases g5 : nm = [115]
  ·simp [g5]
  by_cases g6 : nm = [109, 115]
  ·simp [g6]
  simp [g0, g1, g2, g3, g4, g5, g6]
 ·simp [hf]
theorem unitAns_yes (n : Int) (k : Nat) (nm : List UInt8) (hu : ¬ unitOf nm = -1) : unitAns n k true nm = (n, unitOf nm, (k : Int), true) := by unfold unitAns; rw [if_pos ⟨rfl, hu⟩]
def partS (l : List UInt8) (at_ : Nat) : Int × Int × Int × Bool :=
 unitAns ((l.takeWhile isD).foldl satStep 0) (at_ + (l.takeWhile isD).length + ((l.dropWhile isD).takeWhile (!isD ·)).length) (decide (l.takeWhile isD ≠ [])) ((l.dropWhile isD).takeWhile (!isD ·))
theorem drop_take (l : List UInt8) (p : UInt8 → Bool) : l.drop (l.takeWhile p).length = l.dropWhile p := by
 induction l with
 | nil => simp
 | cons c r ih =>
  rw [List.takeWhile_cons, List.dropWhile_cons]
  split
  ·simpa using ih
  ·simp
theorem take_take (l : List UInt8) (p : UInt8 → Bool) : l.take (l.takeWhile p).length = l.takeWhile p := by
 induction l with
 | nil => simp
 | cons c r ih =>
  rw [List.takeWhile_cons]
  split
  ·simpa using ih
  ·simp
theorem take_len (l : List UInt8) (p : UInt8 → Bool) : (l.takeWhile p).length ≤ l.length := (List.takeWhile_sublist p).length_le
theorem part_some (s : List UInt8) (hs : s.length ≤ 1000000) (at_ : Nat) (ha : at_ ≤ s.length) (k : Nat) (hk : 2 * s.length + 20 ≤ k) : soundingsref07_part.f k (bs s) (at_ : Int) = some (partS (s.drop at_) at_) := by
 obtain ⟨l, hl⟩ : ∃ l, s.drop at_ = l := ⟨_, rfl⟩
 have hll : l.length = s.length - at_ := by rw [← hl, List.length_drop]
 have h1 := take_len l isD
 have hsum : (l.takeWhile isD).length + ((l.dropWhile isD).takeWhile (!isD ·)).length ≤ l.length := by
  have h2 := take_len (l.dropWhile isD) (!isD ·)
  have h3 : (l.takeWhile isD ++ l.dropWhile isD).length = l.length := by rw [List.takeWhile_append_dropWhile]
  rw [List.length_append] at h3
  omega
 have hd1 : s.drop (at_ + (l.takeWhile isD).length) = l.dropWhile isD := by rw [← drop_take, ← hl, List.drop_drop]
 unfold soundingsref07_part.f
 obtain ⟨K, hK⟩ : ∃ K, k = (K + 9 + ((l.dropWhile isD).takeWhile (!isD ·)).length + 1) + 2 * (l.takeWhile isD).length + 2 := ⟨k - (9 + ((l.dropWhile isD).takeWhile (!isD ·)).length + 1 + 2 * (l.takeWhile isD).length + 2), by omega⟩
 rw [hK, part_l0 s hs _ at_ l at_ 0 hl ha (by omega) (by omega), part_l1 s hs (K + 9) at_ _ _ (l.dropWhile isD) _ hd1 (by omega)]
 rw [part_l2 s K at_ _ _ _ (by omega) (by omega) ((l.dropWhile isD).takeWhile (!isD ·)) (by rw [hd1, Nat.add_sub_cancel_left, take_take]) hs]
 rw [hl]
 unfold partS
 congr 2
 apply decide_eq_decide.mpr
 cases l.takeWhile isD with
 | nil => simp
 | cons c r => simp

/-! ### Numbers -/
theorem valStep_le (n : Int) (c : UInt8) (h : 0 ≤ n) (hc : isD c = true) : n ≤ valStep n c ∧ 0 ≤ valStep n c := by
 rw [isD_iff] at hc
 unfold valStep
 omega
theorem val_mono : ∀ (D : List UInt8) (n : Int), 0 ≤ n → (∀ c ∈ D, isD c = true) → n ≤ D.foldl valStep n
 | [], n, _, _ => Int.le_refl _
 | c :: D, n, h, hD => by
  have h1 := valStep_le n c h (hD c (by simp))
  have h2 := val_mono D (valStep n c) h1.2 (fun x hx => hD x (by simp [hx]))
  rw [List.foldl_cons]
  omega
theorem sat_val : ∀ (D : List UInt8) (n : Int), 0 ≤ n → n ≤ 35184372088832 → (∀ c ∈ D, isD c = true) → D.foldl satStep n = if D.foldl valStep n ≤ 35184372088832 then D.foldl valStep n else 35184372088833
 | [], n, _, h, _ => by simp [h]
 | c :: D, n, h0, h1, hD => by
  have h2 := valStep_le n c h0 (hD c (by simp))
  have hc := (isD_iff c).1 (hD c (by simp))
  rw [List.foldl_cons, List.foldl_cons]
  by_cases h3 : valStep n c ≤ 35184372088832
  ·have e : satStep n c = valStep n c := by unfold satStep valStep at *; rw [if_neg (by omega)]
   rw [e]
   exact sat_val D _ h2.2 h3 (fun x hx => hD x (by simp [hx]))
  ·have e : satStep n c = 35184372088833 := by unfold satStep valStep at *; split <;> omega
   have h4 := val_mono D (valStep n c) h2.2 (fun x hx => hD x (by simp [hx]))
   rw [e, if_neg (by omega)]
   have : ∀ (D : List UInt8), (∀ c ∈ D, isD c = true) → D.foldl satStep 35184372088833 = 35184372088833 := by
    intro D
    induction D with
    | nil => intro _; rfl
    | cons c D ih =>
     intro hD
     have hc := (isD_iff c).1 (hD c (by simp))
     rw [List.foldl_cons, show satStep 35184372088833 c = 35184372088833 from by unfold satStep; split <;> omega]
     exact ih (fun x hx => hD x (by simp [hx]))
   exact this D (fun x hx => hD x (by simp [hx]))
theorem numR_val : ∀ (l : List UInt8) (n : Int), 0 ≤ n → (l.takeWhile isD).foldl valStep n ≤ MaxSpan → numR MaxSpan l n = some ((l.takeWhile isD).foldl valStep n, l.dropWhile isD)
 | [], n, _, _ => by simp [numR]
 | c :: l, n, h0, h => by
  by_cases hD : isD c = true
  ·rw [List.takeWhile_cons, if_pos hD, List.foldl_cons] at h ⊢
   rw [List.dropWhile_cons, if_pos hD]
   have h2 := valStep_le n c h0 hD
   have h3 := val_mono (l.takeWhile isD) (valStep n c) h2.2 (fun x hx => by have := List.all_takeWhile (l := l) (p := isD); rw [List.all_eq_true] at this; exact this x hx)
   have hc := (isD_iff c).1 hD
   rw [numR, if_neg (by omega), if_neg (by omega)]
   exact numR_val l (valStep n c) h2.2 h
  ·rw [List.takeWhile_cons, if_neg hD, List.dropWhile_cons, if_neg hD]
   rw [isD_iff] at hD
   rw [numR, if_pos (by omega)]
   rfl
theorem numR_big : ∀ (l : List UInt8) (n : Int), 0 ≤ n → MaxSpan < (l.takeWhile isD).foldl valStep n → ∀ m r, numR MaxSpan l n = some (m, r) → MaxSpan < m
 | [], n, _, h, m, r, e => by
  simp only [numR, Option.some.injEq, Prod.mk.injEq] at e
  obtain ⟨rfl, rfl⟩ := e
  simpa using h
 | c :: l, n, h0, h, m, r, e => by
  by_cases hD : isD c = true
  ·rw [List.takeWhile_cons, if_pos hD, List.foldl_cons] at h
   have h2 := valStep_le n c h0 hD
   have hc := (isD_iff c).1 hD
   rw [numR, if_neg (by omega)] at e
   split at e
   ·cases e
   ·exact numR_big l (valStep n c) h2.2 h m r e
  ·rw [List.takeWhile_cons, if_neg hD] at h
   rw [isD_iff] at hD
   rw [numR, if_pos (by omega)] at e
   simp only [Option.some.injEq, Prod.mk.injEq] at e
   obtain ⟨rfl, rfl⟩ := e
   simpa using h
theorem numS_nodig (c : UInt8) (l : List UInt8) (h : isD c = false) : (numS MaxSpan (c :: l)).2.2 = false := by
 have hD : ¬ isD c = true := by rw [h]; simp
 rw [isD_iff] at hD
 unfold numS
 rw [numR, if_pos (by omega)]
 simp
theorem uset_not : ∀ c : UInt8, uset.contains c = true → isD c = false := by
 intro c h
 simp only [uset, List.contains_cons, List.contains_nil, Bool.or_false, Bool.or_eq_true, beq_iff_eq] at h
 rcases h with rfl | rfl | rfl | rfl | rfl | rfl <;> rfl
theorem unit_uset (nm : List UInt8) (h : unitOf nm ≠ -1) : ∀ c ∈ nm, uset.contains c = true := by
 have hh : nm = [121] ∨ nm = [119] ∨ nm = [100] ∨ nm = [104] ∨ nm = [109] ∨ nm = [115] ∨ nm = [109, 115] := by
  unfold unitOf at h
  (repeat' split at h) <;> simp_all
 rcases hh with rfl | rfl | rfl | rfl | rfl | rfl | rfl <;> decide
theorem take_all (l r : List UInt8) (p : UInt8 → Bool) (h : ∀ c ∈ l, p c = true) : (l ++ r).takeWhile p = l ++ r.takeWhile p ∧ (l ++ r).dropWhile p = r.dropWhile p := by
 induction l with
 | nil => exact ⟨rfl, rfl⟩
 | cons c l ih =>
  have := ih (fun x hx => h x (by simp [hx]))
  rw [List.cons_append, List.takeWhile_cons, List.dropWhile_cons, if_pos (h c (by simp)), if_pos (h c (by simp)), this.1, this.2]
  exact ⟨rfl, rfl⟩
/-- The run of unit letters, held against all up to the next digit: the same, or what is up to the next digit is no unit, and what is behind the run is no part. -/
theorem run_cases (r : List UInt8) : (r.takeWhile (uset.contains ·) = r.takeWhile (!isD ·) ∧ r.dropWhile (uset.contains ·) = r.dropWhile (!isD ·)) ∨
  (unitOf (r.takeWhile (!isD ·)) = -1 ∧ ∃ c t, isD c = false ∧ r.dropWhile (uset.contains ·) = c :: t) := by
 have hall : ∀ c ∈ r.takeWhile (uset.contains ·), (fun x => !isD x) c = true := fun c hc => by
  have h := List.all_takeWhile (l := r) (p := (uset.contains ·))
  rw [List.all_eq_true] at h
  simp only [uset_not c (h c hc)]
  rfl
 have hr : r = r.takeWhile (uset.contains ·) ++ r.dropWhile (uset.contains ·) := (List.takeWhile_append_dropWhile).symm
 have h1 := take_all (r.takeWhile (uset.contains ·)) (r.dropWhile (uset.contains ·)) (!isD ·) hall
 rw [← hr] at h1
 cases h : r.dropWhile (uset.contains ·) with
 | nil =>
  rw [h] at h1
  exact .inl ⟨by rw [h1.1]; simp, by rw [h1.2]; simp⟩
 | cons c t =>
  rw [h] at h1
  by_cases hD : isD c = true
  ·rw [List.takeWhile_cons, if_neg (by simp [hD]), List.dropWhile_cons, if_neg (by simp [hD])] at h1
   exact .inl ⟨by rw [h1.1]; simp, by rw [h1.2]⟩
  ·rw [Bool.not_eq_true] at hD
   refine .inr ⟨?_, c, t, hD, rfl⟩
   rw [List.takeWhile_cons, if_pos (by simp [hD])] at h1
   rcases Classical.em (unitOf (r.takeWhile (!isD ·)) = -1) with h2 | h2
   ·exact h2
   ·have h3 := unit_uset _ h2 c (by rw [h1.1]; simp)
    have h4 : r.dropWhile (uset.contains ·) ≠ [] := by rw [h]; simp
    have h5 := List.head_dropWhile_not (p := (uset.contains ·)) (l := r) h4
    simp only [h, List.head_cons] at h5
    rw [h3] at h5
    cases h5

/-! ### The document's Parse -/
def ansP : Option Int → Int × Bool
 | none => (0, false)
 | some v => (v, true)
theorem over_iff (M sum n L : Int) (hL : 1 ≤ L) (h0 : 0 ≤ sum) (h1 : sum ≤ M) : n > (M - sum).tdiv L ↔ sum + n * L > M := by
 rw [Int.tdiv_eq_ediv_of_nonneg (by omega)]
 have := Int.le_ediv_iff_mul_le (a := n) (b := M - sum) (c := L) (by omega)
 omega
theorem rparse_l0 (s : List UInt8) (hs : s.length ≤ 1000000) : ∀ (f : Nat) (l : List UInt8) (at_ : Nat) (sum : Int) (next : Nat) (K : Nat), s.drop at_ = l → at_ ≤ s.length → l.length < f → 0 ≤ sum → sum ≤ 35184372088832 → next ≤ 7 → 6 * f + 2 * s.length + 30 ≤ K →
  soundingsref07_Parse.l0 K (bs s) sum ((next : Int) - 1) (at_ : Int) = some (ansP (parseR f l sum next))
 | 0, l, at_, sum, next, K, hd, ha, hf, _, _, _, _ => absurd hf (Nat.not_lt_zero _)
 | f + 1, l, at_, sum, next, K, hd, ha, hf, h0, h1, hn, hK => by
  obtain ⟨K, rfl⟩ : ∃ m, K = m + 1 := ⟨K - 1, by omega⟩
  by_cases hl : l = []
  ·subst hl
   have := drop_nil hd
   unfold soundingsref07_Parse.l0
   rw [bs_size, if_neg (by omega), parseR, if_pos rfl]
   rfl
  have hlt : at_ < s.length := by
   rcases Nat.lt_or_ge at_ s.length with h' | h'
   ·exact h'
   ·rw [List.drop_eq_nil_of_le h'] at hd; exact absurd hd.symm hl
  unfold soundingsref07_Parse.l0
  rw [bs_size, if_pos (by omega), part_some s hs at_ ha K (by omega), hd]
  simp only [Option.bind_some]
  obtain ⟨K, rfl⟩ : ∃ m, K = m + 1 := ⟨K - 1, by omega⟩
  have fail : ∀ (P : Int × Int × Int × Bool), P.2.2.2 = false → (if P.2.2.2 = true then soundingsref07_Parse.j2 (K + 1) (bs s) sum P.1 P.2.1 P.2.2.1 (decide (P.2.1 ≤ (next : Int) - 1)) else soundingsref07_Parse.j2 (K + 1) (bs s) sum P.1 P.2.1 P.2.2.1 true) = some (0, false) := fun P hP => by
   rw [hP, if_neg (by simp), soundingsref07_Parse.j2, if_pos rfl]
  have hallD : ∀ c ∈ l.takeWhile isD, isD c = true := fun c hc => by
   have h := List.all_takeWhile (l := l) (p := isD)
   rw [List.all_eq_true] at h
   exact h c hc
  rw [parse_step (f + 1) l sum next hl hf]
  by_cases hD : l.takeWhile isD = []
  ·-- no digits
   have hno : (numS MaxSpan l).2.2 = false := by
    cases l with
    | nil => exact absurd rfl hl
    | cons c r =>
     apply numS_nodig
     rw [List.takeWhile_cons] at hD
     split at hD
     ·cases hD
     ·rename_i h; simpa using h
   rw [fail _ (by unfold partS unitAns; rw [if_neg (by simp [hD])]), if_pos (.inl hno)]
   rfl
  by_cases hbig : MaxSpan < (l.takeWhile isD).foldl valStep 0
  ·-- too great a number
   have hno : (numS MaxSpan l).2.2 = false := by
    unfold numS
    cases h : numR MaxSpan l 0 with
    | none => rfl
    | some x =>
     obtain ⟨m, r⟩ := x
     have := numR_big l 0 (Int.le_refl _) hbig m r h
     show (_ && decide (m ≤ MaxSpan)) = false
     rw [decide_eq_false (p := m ≤ MaxSpan) (by omega), Bool.and_false]
   unfold MaxSpan at hbig
   have hsat := sat_val (l.takeWhile isD) 0 (by omega) (by omega) hallD
   rw [if_neg (by omega)] at hsat
   by_cases hu : unitOf ((l.dropWhile isD).takeWhile (!isD ·)) = -1
   ·rw [fail _ (by unfold partS unitAns; rw [if_neg (fun h => h.2 hu)]), if_pos (.inl hno)]
    rfl
   ·unfold partS
    rw [show decide (l.takeWhile isD ≠ []) = true by simp [hD], unitAns_yes _ _ _ hu, hsat]
    dsimp only
    rw [if_pos rfl]
    obtain ⟨K, rfl⟩ : ∃ m, K = m + 2 := ⟨K - 2, by omega⟩
    have hc := unitOf_cases ((l.dropWhile isD).takeWhile (!isD ·))
    generalize unitOf ((l.dropWhile isD).takeWhile (!isD ·)) = k at *
    obtain ⟨j, rfl⟩ : ∃ j : Nat, k = j := ⟨k.toNat, by omega⟩
    rw [if_pos (.inl hno)]
    unfold soundingsref07_Parse.j2
    split
    ·rfl
    ·unfold soundingsref07_Parse.l1
     rw [if_pos (by omega), decide_eq_true (by omega : (35184372088833 : Int) > 0)]
     unfold soundingsref07_Parse.j4
     have hL := long_pos j
     have hw : wrap64 (Int.tdiv 35184372088832 (longOf j)) ≤ 35184372088832 := by
      rw [Int.tdiv_eq_ediv_of_nonneg (by omega)]
      have : (35184372088832 : Int) / longOf j ≤ 35184372088832 := Int.ediv_le_self _ (by omega)
      have : 0 ≤ (35184372088832 : Int) / longOf j := Int.ediv_nonneg (by omega) (by omega)
      unfold wrap64; omega
     rw [if_pos rfl]
     simp only [soundingsref07_Long.f, Option.bind_some]
     rw [if_pos (by omega), if_pos (by simp only [List.length_cons, List.length_nil]; omega), rd_long j (by omega), if_neg (by omega), if_pos (by omega)]
     rfl
  -- a number
  have hval : (l.takeWhile isD).foldl valStep 0 ≤ MaxSpan := by omega
  have hnum := numR_val l 0 (Int.le_refl _) hval
  have hlen2 : (l.dropWhile isD).length < l.length := by
   have h3 : (l.takeWhile isD ++ l.dropWhile isD).length = l.length := by rw [List.takeWhile_append_dropWhile]
   rw [List.length_append] at h3
   have : 0 < (l.takeWhile isD).length := List.length_pos_iff.mpr hD
   omega
  have hnS : numS MaxSpan l = ((l.takeWhile isD).foldl valStep 0, l.dropWhile isD, true) := by
   unfold numS
   rw [hnum]
   simp [hval, hlen2]
  have hsat := sat_val (l.takeWhile isD) 0 (by omega) (by omega) hallD
  have hv0 := val_mono (l.takeWhile isD) 0 (Int.le_refl _) hallD
  unfold MaxSpan at hval
  rw [if_pos hval] at hsat
  have hdr : s.drop (at_ + (l.takeWhile isD).length) = l.dropWhile isD := by rw [← drop_take, ← hd, List.drop_drop]
  rw [hnS]
  dsimp only
  unfold partS
  rw [hsat]
  generalize (l.takeWhile isD).foldl valStep 0 = n at *
  have hdec : decide (l.takeWhile isD ≠ []) = true := by simp [hD]
  rw [hdec]
  generalize (l.takeWhile isD).length = dl at *
  generalize l.dropWhile isD = r at *
  rcases run_cases r with ⟨e1, e2⟩ | ⟨hu, c, t, hc, e⟩
  ·-- the run is all up to the next digit
   unfold namedS
   rw [e1]
   dsimp only
   by_cases hu : unitOf (r.takeWhile (!isD ·)) = -1
   ·rw [fail _ (by unfold unitAns; rw [if_neg (fun h => h.2 hu)]), if_pos (.inr (.inl (by rw [hu]; omega)))]
    rfl
   ·have hcs := unitOf_cases (r.takeWhile (!isD ·))
    have hdr2 : s.drop (at_ + dl + (r.takeWhile (!isD ·)).length) = r.dropWhile (!isD ·) := by rw [← List.drop_drop, hdr, drop_take]
    have hle : at_ + dl + (r.takeWhile (!isD ·)).length ≤ s.length := by
     have h7 := take_len r (!isD ·)
     have h8 : (s.drop (at_ + dl)).length = r.length := by rw [hdr]
     rw [List.length_drop] at h8
     have : 0 < (r.takeWhile (!isD ·)).length := by
      cases h9 : r.takeWhile (!isD ·) with
      | nil => rw [h9] at hu; exact absurd rfl hu
      | cons _ _ => simp
     omega
    have hbl : (r.dropWhile (!isD ·)).length ≤ r.length := (List.dropWhile_sublist _).length_le
    rw [unitAns_yes _ _ _ hu, if_neg hu, e2]
    dsimp only
    rw [if_pos rfl]
    generalize unitOf (r.takeWhile (!isD ·)) = k at *
    obtain ⟨j, rfl⟩ : ∃ j : Nat, k = j := ⟨k.toNat, by omega⟩
    have hL := long_pos j
    rw [show ((j : Int)).toNat = j from by omega]
    unfold soundingsref07_Parse.j2
    by_cases hjn : (j : Int) < next
    ·rw [decide_eq_true (by omega : (j : Int) ≤ (next : Int) - 1), if_pos rfl, if_pos (.inr (.inl hjn))]
     rfl
    ·rw [decide_eq_false (by omega : ¬ (j : Int) ≤ (next : Int) - 1), if_neg (by simp)]
     have hov := over_iff 35184372088832 sum n (longOf j) hL h0 h1
     have hnL : 0 ≤ n * longOf j := Int.mul_nonneg hv0 (by omega)
     have ih := fun (hs3 : sum + n * longOf j ≤ 35184372088832) (K' : Nat) (hK' : 6 * f + 2 * s.length + 30 ≤ K') => rparse_l0 s hs f (r.dropWhile (!isD ·)) (at_ + dl + (r.takeWhile (!isD ·)).length) (sum + n * longOf j) (j + 1) K' hdr2 hle (by omega) (by omega) hs3 (by omega) hK'
     have ej : ((j + 1 : Nat) : Int) - 1 = (j : Int) := by omega
     rw [ej] at ih
     have ej2 : ((j + 1 : Nat) : Int) = (j : Int) + 1 := by omega
     have hfuel : parseR (f + 1) (r.dropWhile (!isD ·)) (sum + n * longOf j) ((j : Int) + 1) = parseR f (r.dropWhile (!isD ·)) (sum + n * longOf j) ((j + 1 : Nat) : Int) := by rw [ej2]; exact parseR_fuel _ _ _ _ _ (by omega) (by omega)
     rw [hfuel]
     obtain ⟨K, rfl⟩ : ∃ m, K = m + 2 := ⟨K - 2, by omega⟩
     unfold soundingsref07_Parse.l1
     rw [if_pos (by omega)]
     unfold soundingsref07_Parse.j4
     unfold MaxSpan
     by_cases hn0 : n > 0
     ·rw [decide_eq_true hn0, if_pos rfl]
      simp only [soundingsref07_Long.f, Option.bind_some]
      rw [if_pos (by omega), if_pos (by simp only [List.length_cons, List.length_nil]; omega), rd_long j (by omega), if_neg (by omega)]
      have hdv : n > (35184372088832 : Int) / longOf j ↔ n * longOf j > 35184372088832 := by
       have := Int.le_ediv_iff_mul_le (a := n) (b := 35184372088832) (c := longOf j) (by omega)
       omega
      have hd1 : (35184372088832 : Int) / longOf j ≤ 35184372088832 := Int.ediv_le_self _ (by omega)
      have hd2 : 0 ≤ (35184372088832 : Int) / longOf j := Int.ediv_nonneg (by omega) (by omega)
      have hw : wrap64 (Int.tdiv 35184372088832 (longOf j)) = (35184372088832 : Int) / longOf j := by rw [Int.tdiv_eq_ediv_of_nonneg (by omega)]; unfold wrap64; omega
      rw [hw]
      by_cases hg : n > (35184372088832 : Int) / longOf j
      ·rw [if_pos hg, if_pos (.inr (.inr (hov.2 (by have := hdv.1 hg; omega))))]
       rfl
      ·rw [if_neg hg, if_pos (by simp only [List.length_cons, List.length_nil]; omega)]
       have hnl2 : n * longOf j ≤ 35184372088832 := by
        rcases Int.lt_or_le 35184372088832 (n * longOf j) with h | h
        ·exact absurd (hdv.2 h) hg
        ·exact h
       have w1 : wrap64 (n * longOf j) = n * longOf j := by unfold wrap64; omega
       have w2 : wrap64 (sum + n * longOf j) = sum + n * longOf j := by unfold wrap64; omega
       have w3 : wrap64 (0 + 1) = 1 := by unfold wrap64; omega
       rw [w1, w2, w3]
       obtain ⟨K, rfl⟩ : ∃ m, K = m + 2 := ⟨K - 2, by omega⟩
       unfold soundingsref07_Parse.l1
       rw [if_neg (by omega)]
       unfold soundingsref07_Parse.j4
       rw [if_neg (by simp)]
       by_cases hs3 : sum + n * longOf j > 35184372088832
       ·rw [if_pos hs3, if_pos (.inr (.inr (hov.2 hs3)))]
        rfl
       ·rw [if_neg hs3, if_neg (by
         rintro (h | h | h)
         ·cases h
         ·exact hjn h
         ·exact hs3 (hov.1 h))]
        exact ih (by omega) K (by omega)
     ·have hz : n = 0 := by omega
      rw [decide_eq_false hn0, if_neg (by simp), if_neg (by omega)]
      rw [if_neg (by
         rintro (h | h | h)
         ·cases h
         ·exact hjn h
         ·have := hov.1 h
          rw [hz] at this
          omega)]
      have e0 : sum + n * longOf j = sum := by rw [hz]; omega
      rw [e0] at ih ⊢
      exact ih h1 K (by omega)
  ·-- letters of no unit behind the run
   rw [fail _ (by unfold unitAns; rw [if_neg (fun h => h.2 hu)])]
   unfold namedS
   rw [e]
   dsimp only
   split
   ·rfl
   ·rename_i hcond
    by_cases hk : unitOf (r.takeWhile (uset.contains ·)) = -1
    ·exact absurd (.inr (.inl (by rw [hk]; omega))) hcond
    ·rw [if_neg hk, parse_step _ _ _ _ (by simp) (by
      have h5 : (r.dropWhile (uset.contains ·)).length ≤ r.length := (List.dropWhile_sublist _).length_le
      rw [e] at h5
      omega), if_pos (.inl (numS_nodig c t hc))]
     rfl
theorem rparse_some (s : List UInt8) (hs : s.length ≤ 400) : soundingsref07_Parse.f 5000 (bs s) = some ((parseS s).getD 0, (parseS s).isSome) := by
 unfold soundingsref07_Parse.f
 rw [bs_size]
 by_cases h0 : (s.length : Int) = 0
 ·rw [if_pos h0]
  have : s = [] := List.length_eq_zero_iff.mp (by omega)
  subst this
  rfl
 ·rw [if_neg h0]
  have hne : s ≠ [] := fun h => h0 (by rw [h]; rfl)
  by_cases h2 : (s.length : Int) > 200
  ·rw [decide_eq_true h2]
   unfold parseS
   rw [if_pos (.inr (by omega))]
   rfl
  ·rw [decide_eq_false h2]
   unfold parseS
   rw [if_neg (by rintro (h | h); exact hne h; omega), soundingsref07_Parse.j0, if_neg (by simp)]
   have h := rparse_l0 s (by omega) (s.length + 1) s 0 0 0 4999 rfl (by omega) (by omega) (by omega) (by omega) (by omega) (by omega)
   have e0 : ((0 : Nat) : Int) = 0 := rfl
   rw [e0] at h
   have e1 : (0 : Int) - 1 = -1 := rfl
   rw [e1] at h
   rw [h]
   cases parseR (s.length + 1) s 0 0 with
   | none => rfl
   | some v => rfl
end Go.Proofs.YtjleceekccehoaaGreatDoor.Pr
end

section
set_option linter.unusedVariables false
set_option linter.unusedSimpArgs false
namespace Go.Proofs.YtjleceekccehoaaGreatDoor.Pr
open Go.RowKit Go.Proofs.YtjleceekccehoaaGreatDoorW.PrintWords

theorem kind97 (z : Nat) : kindV z = 97 ↔ isLet z = true := by
 unfold kindV
 constructor
 ·intro h
  split at h
  ·assumption
  ·split at h
   ·omega
   ·split at h
    ·omega
    ·subst h; rfl
 ·intro h; rw [if_pos h]
theorem kind_lo (z : Nat) (hz : z < 256) : (kindV z = 34 ↔ z = 34) ∧ (kindV z = 46 ↔ z = 46) := by
 have h : ((List.range 256).all fun z => decide ((kindV z = 34 ↔ z = 34) ∧ (kindV z = 46 ↔ z = 46))) = true := by decide +kernel
 exact of_decide_eq_true (List.all_eq_true.1 h z (List.mem_range.2 hz))
theorem signV_eq (s : List UInt8) : signV s = if signN s = 0 then none else some (5, s.take (signN s), signN s) := by
 unfold signV signN
 cases hf : signs.find? (fun p => Lib.hasPrefix s p) with
 | none => rfl
 | some p =>
  have hp : Lib.hasPrefix s p = true := List.find?_some (p := fun p => Lib.hasPrefix s p) hf
  have hm := List.mem_of_find?_eq_some hf
  have hall : ∀ p ∈ signs, p.length ≠ 0 := by decide
  simp only
  rw [if_neg (hall p hm)]
  unfold Lib.hasPrefix at hp
  rw [List.isPrefixOf_iff_prefix] at hp
  rw [List.prefix_iff_eq_take.1 hp, List.length_take, Nat.min_eq_left hp.length_le]
theorem signN_no (c : UInt8) (r : List UInt8) (h : isDig c.toNat = true ∨ c.toNat = 46 ∨ c.toNat = 34) : signN (c :: r) = 0 := by
 have e61 : (c = 61) = False := eq_false (fun h0 => by subst h0; revert h; decide)
 have e62 : (c = 62) = False := eq_false (fun h0 => by subst h0; revert h; decide)
 have e60 : (c = 60) = False := eq_false (fun h0 => by subst h0; revert h; decide)
 have e33 : (c = 33) = False := eq_false (fun h0 => by subst h0; revert h; decide)
 have e43 : (c = 43) = False := eq_false (fun h0 => by subst h0; revert h; decide)
 have e45 : (c = 45) = False := eq_false (fun h0 => by subst h0; revert h; decide)
 have e42 : (c = 42) = False := eq_false (fun h0 => by subst h0; revert h; decide)
 have e47 : (c = 47) = False := eq_false (fun h0 => by subst h0; revert h; decide)
 have e37 : (c = 37) = False := eq_false (fun h0 => by subst h0; revert h; decide)
 have e64 : (c = 64) = False := eq_false (fun h0 => by subst h0; revert h; decide)
 have e40 : (c = 40) = False := eq_false (fun h0 => by subst h0; revert h; decide)
 have e41 : (c = 41) = False := eq_false (fun h0 => by subst h0; revert h; decide)
 have e123 : (c = 123) = False := eq_false (fun h0 => by subst h0; revert h; decide)
 have e125 : (c = 125) = False := eq_false (fun h0 => by subst h0; revert h; decide)
 have e91 : (c = 91) = False := eq_false (fun h0 => by subst h0; revert h; decide)
 have e93 : (c = 93) = False := eq_false (fun h0 => by subst h0; revert h; decide)
 have e44 : (c = 44) = False := eq_false (fun h0 => by subst h0; revert h; decide)
 cases r with
 | nil => rw [signN1]; simp only [e61, e62, e60, e33, e43, e45, e42, e47, e37, e64, e40, e41, e123, e125, e91, e93, e44, if_false]
 | cons d r => rw [signN2]; simp only [e61, e62, e60, e33, e43, e45, e42, e47, e37, e64, e40, e41, e123, e125, e91, e93, e44, false_and, if_false]
theorem word_not (c : UInt8) (r : List UInt8) (h : isLet c.toNat = false) : wordT (c :: r) = none := by
 unfold wordT
 simp only
 rw [if_neg (by rw [h]; simp)]
theorem num_not (s : List UInt8) (h : isNum0 s = false) : numT s = none := by
 unfold numT
 rw [if_neg (by rw [h]; simp)]
theorem quot_not (c : UInt8) (r : List UInt8) (h : c.toNat ≠ 34) : quotV (c :: r) = none := by
 unfold quotV
 simp only
 rw [if_neg h]
theorem tokAt_let (c : UInt8) (r : List UInt8) (h : isLet c.toNat = true) : tokAt (c :: r) = some (1, (c :: r).take (run (fun z => isLet z || isDig z) (c :: r)), run (fun z => isLet z || isDig z) (c :: r)) := by
 have hw : wordV (c :: r) = run (fun z => isLet z || isDig z) (c :: r) := if_pos h
 unfold tokAt wordT
 simp only
 rw [if_pos h, hw]
theorem tokAt_num (c : UInt8) (r : List UInt8) (hl : isLet c.toNat = false) (hc : isDig c.toNat = true ∨ c.toNat = 46) (h : isNum0 (c :: r) = true) : tokAt (c :: r) = numT (c :: r) := by
 unfold tokAt
 rw [word_not c r hl]
 simp only
 cases hn : numT (c :: r) with
 | some x => rfl
 | none =>
  simp only
  rw [quot_not c r (by rcases hc with h | h; intro h34; rw [h34] at h; exact absurd h (by decide); omega)]
  simp only
  rw [signV_eq, signN_no c r (by rcases hc with h | h; exact Or.inl h; exact Or.inr (Or.inl h)), if_pos rfl]
theorem tokAt_quot (c : UInt8) (r : List UInt8) (h : c.toNat = 34) : tokAt (c :: r) = quotT (c :: r).length (quotR r []) := by
 have hq : quotV (c :: r) = quotT (c :: r).length (quotR r []) := if_pos h
 unfold tokAt
 rw [word_not c r (by rw [h]; decide)]
 simp only
 rw [num_not (c :: r) (by unfold isNum0; simp only [h]; rfl)]
 simp only
 rw [hq]
 cases quotT (c :: r).length (quotR r []) with
 | some x => rfl
 | none =>
  simp only
  rw [signV_eq, signN_no c r (Or.inr (Or.inr h)), if_pos rfl]
theorem tokAt_sign (c : UInt8) (r : List UInt8) (hl : isLet c.toNat = false) (hn : isNum0 (c :: r) = false) (hq : c.toNat ≠ 34) : tokAt (c :: r) = if signN (c :: r) = 0 then none else some (5, (c :: r).take (signN (c :: r)), signN (c :: r)) := by
 unfold tokAt
 rw [word_not c r hl]
 simp only
 rw [num_not _ hn]
 simp only
 rw [quot_not c r hq]
 simp only
 exact signV_eq _
theorem signN_le (s : List UInt8) : signN s ≤ s.length := by
 unfold signN
 cases hf : signs.find? (fun p => Lib.hasPrefix s p) with
 | none => exact Nat.zero_le _
 | some p =>
  have hp : Lib.hasPrefix s p = true := List.find?_some (p := fun p => Lib.hasPrefix s p) hf
  unfold Lib.hasPrefix at hp
  rw [List.isPrefixOf_iff_prefix] at hp
  exact hp.length_le
/-- What the reference's token tells: the token, and the place behind it. -/
def RtE (i : Nat) (e : Ending) : Tk → Prop
 | none => ∃ (a b : Int) (t : ByteArray), e = .returned (.tuple #[.agg #[.int .i64 a, .int .i64 b, .string t], .int .i64 0])
 | some (k, t, n) => e = .returned (.tuple #[.agg #[.int .i64 k, .int .i64 i, .string (bs t)], .int .i64 (i + n : Nat)])
theorem RtE.mk {i k n j : Nat} {t : List UInt8} {b : ByteArray} {ki : Int} (hk : (k : Int) = ki) (ht : bs t = b) (hj : i + n = j) : RtE i (.returned (.tuple #[.agg #[.int .i64 ki, .int .i64 i, .string b], .int .i64 j])) (some (k, t, n)) := by
 subst hk ht hj; rfl
theorem TkB.new1 (w : World) : TkB w (w.alloc (.cells #[.int .i64 0, .int .i64 0, .string ⟨#[]⟩] 41)) w.heap.size :=
 ⟨heap_alloc_new _ _, Nat.le_refl _, below_alloc (Below.refl _ _) _⟩
theorem rparse_all (s : List UInt8) (hs : s.length ≤ 1000000) : soundingsref07_Parse.f 5000 (bs s) = some ((parseS s).getD 0, (parseS s).isSome) := by
 by_cases h : s.length ≤ 400
 ·exact rparse_some s h
 ·unfold soundingsref07_Parse.f
  rw [bs_size, if_neg (by omega), decide_eq_true (by omega)]
  unfold parseS
  rw [if_pos (.inr (by omega))]
  rfl
end Go.Proofs.YtjleceekccehoaaGreatDoor.Pr
end
