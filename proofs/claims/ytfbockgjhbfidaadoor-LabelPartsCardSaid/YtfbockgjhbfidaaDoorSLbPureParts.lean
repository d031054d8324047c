/- LabelParts, plain. -/
import Derived.Test.YtfbockgjhbfidaaDoorSLbPureP
import Derived.Test.YtfbockgjhbfidaaDoorSLbPureT
import Derived.Test.YtfbockgjhbfidaaDoorPrSoundingsref01Part
import Derived.Test.YtfbockgjhbfidaaDoorSPrSoundingslaw01LabelParts
set_option linter.unusedVariables false
set_option linter.unusedSimpArgs false
namespace Go.Proofs.YtfbockgjhbfidaaDoor.Pr
open Go.RowKit Go.Proofs.YtfbockgjhbfidaaDoorW.PrintWords

theorem rdS_at (l : List ByteArray) (i : Nat) (h : i < l.length) : rdOf ByteArray.empty l (i : Int) = l[i] := by simp [rdOf, h]
theorem sameB_comm (a b : ByteArray) : (b.toList == a.toList) = sameB a b := by
  unfold sameB
  rw [Bool.eq_iff_iff, beq_iff_eq, beq_iff_eq]
  exact ⟨Eq.symm, Eq.symm⟩
theorem part_l1 (s : List S46) (ns : List ByteArray) (am : Bool) (out : List S46) (i : Nat) (hi : i < s.length) (hs : s.length ≤ 1000) (hn : ns.length ≤ 1000) (ho : out.length ≤ 1000) : ∀ (d t k : Nat) (is : Bool), t + d = ns.length →
    soundingsref01_Part.l1 (k + d + 1) s ns am out (i : Int) is (t : Int) = if ((is || (ns.drop t).any (sameB (s[i]).f0)) == am) = true then soundingsref01_Part.l0 k s ns am (out ++ [s[i]]) ((i + 1 : Nat) : Int) else soundingsref01_Part.l0 k s ns am out ((i + 1 : Nat) : Int)
  | 0, t, k, is, h => by
    have hw : wrap64 ((i : Int) + 1) = ((i + 1 : Nat) : Int) := by unfold wrap64; omega
    rw [soundingsref01_Part.l1, if_neg (by omega), List.drop_eq_nil_of_le (by omega), List.any_nil, Bool.or_false, hw]
    by_cases hia : (is == am) = true
    · rw [if_pos hia, if_pos hia, if_pos (by omega), if_pos (by omega), if_pos (by omega), rd_at s i hi]
    · rw [if_neg hia, if_neg hia]
  | d + 1, t, k, is, h => by
    have hw : wrap64 ((t : Int) + 1) = ((t + 1 : Nat) : Int) := by unfold wrap64; omega
    have hlt : t < ns.length := by omega
    rw [soundingsref01_Part.l1, if_pos (by omega), hw, List.drop_eq_getElem_cons hlt, List.any_cons]
    cases is with
    | true =>
      rw [if_pos rfl]
      have := part_l1 s ns am out i hi hs hn ho d (t + 1) k true (by omega)
      rw [Bool.true_or] at this ⊢
      exact this
    | false =>
      rw [if_neg (by decide), if_pos (by omega), if_pos (by omega), if_pos (by omega), rd_at s i hi, rdS_at ns t hlt, sameB_comm, Bool.false_or]
      exact part_l1 s ns am out i hi hs hn ho d (t + 1) k _ (by omega)
def partL (s : List S46) (ns : List ByteArray) (am : Bool) : List S46 := s.filter fun x => hasB ns x.f0 == am
theorem part_l0 (s : List S46) (ns : List ByteArray) (am : Bool) (hs : s.length ≤ 1000) (hn : ns.length ≤ 1000) : ∀ (d i k : Nat), i + d = s.length → 1000 + (ns.length + 2) * d < k → soundingsref01_Part.l0 k s ns am (partL (s.take i) ns am) (i : Int) = some (partL s ns am)
  | 0, i, k, hi, hk => by
    obtain ⟨k, rfl⟩ : ∃ m, k = m + 1 := ⟨k - 1, by omega⟩
    rw [soundingsref01_Part.l0, if_neg (by omega), List.take_of_length_le (by omega)]
  | d + 1, i, k, hi, hk => by
    have hm : (ns.length + 2) * (d + 1) = (ns.length + 2) * d + (ns.length + 2) := Nat.mul_succ _ _
    obtain ⟨k, rfl⟩ : ∃ m, k = (m + ns.length + 1) + 1 := ⟨k - ns.length - 2, by omega⟩
    have hlt : i < s.length := by omega
    have hl : (partL (s.take i) ns am).length ≤ 1000 := Nat.le_trans (List.length_filter_le _ _) (by rw [List.length_take]; omega)
    have e0 : ((0 : Nat) : Int) = 0 := rfl
    have h1 := part_l1 s ns am (partL (s.take i) ns am) i hlt hs hn hl ns.length 0 k false (by omega)
    have ih := part_l0 s ns am hs hn d (i + 1) k (by omega) (by omega)
    rw [e0, List.drop_zero, Bool.false_or] at h1
    rw [soundingsref01_Part.l0, if_pos (by omega), h1, ← ih, List.take_succ_eq_append_getElem hlt]
    unfold partL
    rw [List.filter_append]
    have hb : ns.any (sameB (s[i]).f0) = hasB ns (s[i]).f0 := rfl
    rw [hb]
    by_cases h : (hasB ns (s[i]).f0 == am) = true
    · rw [if_pos h, List.filter_cons, if_pos h, List.filter_nil]
    · rw [if_neg h, List.filter_cons, if_neg h, List.filter_nil, List.append_nil]
theorem part_some (s : List S46) (ns : List ByteArray) (am : Bool) (hs : s.length ≤ 40) (hn : ns.length ≤ 40) (k : Nat) (hk : 5000 ≤ k) : soundingsref01_Part.f k s ns am = some (partL s ns am) := by
  have h : (ns.length + 2) * s.length ≤ 42 * 40 := Nat.mul_le_mul (by omega) hs
  exact part_l0 s ns am (by omega) (by omega) s.length 0 k (by omega) (by omega)
theorem partL_true (s : List S46) (ns : List ByteArray) : partL s ns true = keepL s ns := by
  unfold partL keepL
  congr 1; funext x; cases hasB ns x.f0 <;> rfl
theorem partL_false (s : List S46) (ns : List ByteArray) : partL s ns false = dropL s ns := by
  unfold partL dropL
  congr 1; funext x; cases hasB ns x.f0 <;> rfl
theorem keep_drop_len : ∀ (s : List S46) (ns : List ByteArray), (keepL s ns).length + (dropL s ns).length = s.length
  | [], _ => rfl
  | x :: r, ns => by
    have ih := keep_drop_len r ns
    unfold keepL dropL at ih ⊢
    rw [List.filter_cons, List.filter_cons, List.length_cons]
    cases hasB ns x.f0 <;> simp <;> omega
theorem parts_j2 (a : List S46) (ns : List ByteArray) (h : shortB a = true) (k : Nat) : soundingslaw01_LabelParts.j2 (k + 1) a (keepL a ns) (dropL a ns) false = some true := by
  rw [soundingslaw01_LabelParts.j2, if_neg (by decide), refRight_some (short_smallR h), Option.bind_some]
  cases hr : rightB a with
  | false => rw [if_neg (by decide)]
  | true =>
    rw [if_pos rfl, right_some (short_small (short_sub (keep_sub a ns) h)).1, Option.bind_some, right_sub (keep_sub a ns) hr, if_pos rfl, right_some (short_small (short_sub (drop_sub a ns) h)).1, Option.bind_some, right_sub (drop_sub a ns) hr]
theorem parts_l0 (a b : List S46) (ns : List ByteArray) (h1 : shortB a = true) (h2 : shortB b = true) (hn : ns.length ≤ 40) : ∀ (d i k : Nat), i + d = ns.length → 10000 + d ≤ k → soundingslaw01_LabelParts.l0 k a b ns (i : Int) = some true
  | 0, i, k, hi, hk => by
    obtain ⟨k, rfl⟩ : ∃ m, k = m + 2 := ⟨k - 2, by omega⟩
    have s1 := short_small h1
    have s2 := short_small h2
    have hkl := (keep_sub a ns).length_le
    have hdl := (drop_sub a ns).length_le
    have hkd := keep_drop_len a ns
    have hw : wrap64 (((keepL a ns).length : Int) + ((dropL a ns).length : Int)) = (a.length : Int) := by unfold wrap64; omega
    have kk : label_Keep.f a ns = some (keepL a ns) := by unfold label_Keep.f; rw [if_pos ⟨by omega, by omega⟩]
    have dd : label_Drop.f a ns = some (dropL a ns) := by unfold label_Drop.f; rw [if_pos ⟨by omega, by omega⟩]
    rw [soundingslaw01_LabelParts.l0, if_neg (by omega), kk, Option.bind_some, dd, Option.bind_some, labCmp_some a b (by omega) (by omega), Option.bind_some, refCmp_some a b (by omega) (by omega) _ (by omega), Option.bind_some, if_pos rfl, part_some a ns true (by omega) hn _ (by omega), Option.bind_some, partL_true, refCmp_some _ _ (by omega) (by omega) _ (by omega), Option.bind_some, cmpLs_self, if_pos rfl,
      part_some a ns false (by omega) hn _ (by omega), Option.bind_some, partL_false, refCmp_some _ _ (by omega) (by omega) _ (by omega), Option.bind_some, cmpLs_self, if_pos rfl, hw]
    have e : (((a.length : Int)) != (a.length : Int)) = false := by simp
    rw [e]
    exact parts_j2 a ns h1 k
  | d + 1, i, k, hi, hk => by
    obtain ⟨k, rfl⟩ : ∃ m, k = m + 1 := ⟨k - 1, by omega⟩
    have s1 := short_small h1
    have hlt : i < ns.length := by omega
    have hw : wrap64 ((i : Int) + 1) = ((i + 1 : Nat) : Int) := by unfold wrap64; omega
    have hg := get_some ns[i] a (by omega) k (by omega)
    rw [soundingslaw01_LabelParts.l0, if_pos (by omega), if_pos (by omega), rdS_at ns i hlt]
    split
    · rfl
    · rw [hg.1, Option.bind_some, hg.2, Option.bind_some, if_pos rfl, hw]
      exact parts_l0 a b ns h1 h2 hn d (i + 1) k (by omega) (by omega)
theorem parts_law (a b : List S46) (ns : List ByteArray) (wa : a.length ≤ maxLen ∧ ∀ x ∈ a, x.f0.size ≤ maxLen ∧ x.f1.size ≤ maxLen) (wb : b.length ≤ maxLen ∧ ∀ x ∈ b, x.f0.size ≤ maxLen ∧ x.f1.size ≤ maxLen) (wn : ns.length ≤ maxLen ∧ ∀ x ∈ ns, x.size ≤ maxLen) : ∃ k, soundingslaw01_LabelParts.f k a b ns = some true := by
  have ha : a.length ≤ 9223372036854775807 := wa.1
  have hb : b.length ≤ 9223372036854775807 := wb.1
  refine ⟨a.length + b.length + 20000, ?_⟩
  unfold soundingslaw01_LabelParts.f
  rw [awake_some _ (by omega), Option.bind_some, if_pos rfl, short_some a ha _ (by omega), Option.bind_some]
  obtain ⟨k, hk⟩ : ∃ k, a.length + b.length + 20000 = k + 1 := ⟨a.length + b.length + 19999, by omega⟩
  have hout : soundingslaw01_LabelParts.j0 (k + 1) a b ns true = some true := by rw [soundingslaw01_LabelParts.j0, if_pos rfl]
  rw [short_some b hb _ (by omega), Option.bind_some, hk]
  cases h1 : shortB a with
  | false => rw [if_neg (by decide), hout]
  | true =>
    rw [if_pos rfl]
    cases h2 : shortB b with
    | false => rw [if_neg (by decide), hout]
    | true =>
      rw [if_pos rfl]
      by_cases h3 : (ns.length : Int) > 40
      · rw [decide_eq_true h3, hout]
      · rw [decide_eq_false h3, soundingslaw01_LabelParts.j0, if_neg (by decide)]
        exact parts_l0 a b ns h1 h2 (by omega) ns.length 0 k (by omega) (by omega)
end Go.Proofs.YtfbockgjhbfidaaDoor.Pr
