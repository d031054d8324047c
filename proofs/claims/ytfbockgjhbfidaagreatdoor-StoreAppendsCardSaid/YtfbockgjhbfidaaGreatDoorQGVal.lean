/- Texts of this session, cut down to what one claim needs and joined: LbName, LbVal. -/
import Derived.Test.YtfbockgjhbfidaaGreatDoorQGOrd
import Derived.Test.YtfbockgjhbfidaaGreatDoorQGPr
import Derived.Shelf.Unicode.ValidAny
import Derived.WalkMore
section
set_option linter.unusedVariables false
set_option linter.unusedSimpArgs false
namespace Go.Proofs.YtfbockgjhbfidaaGreatDoor.Pr
open Go.RowKit Go.Proofs.YtfbockgjhbfidaaGreatDoorW.PrintWords

def bs (l : List UInt8) : ByteArray := ⟨l.toArray⟩
theorem bs_size (l : List UInt8) : (bs l).size = l.length := by simp [bs, ByteArray.size]
theorem bs_toList (l : List UInt8) : (bs l).toList = l := by rw [Lib.toList_data]; rfl
theorem bs_at (l : List UInt8) (i : Nat) (h : i < l.length) : bt (bs l) (i : Int) = ((l[i]).toNat : Int) := by
 unfold bt
 rw [dif_pos (by rw [bs_size]; simpa using h)]
 rfl
theorem drop_cons {s : List UInt8} {at_ : Nat} {c : UInt8} {r : List UInt8} (h : s.drop at_ = c :: r) : ∃ hlt : at_ < s.length, s[at_] = c ∧ s.drop (at_ + 1) = r := by
 have hlt : at_ < s.length := by
  rcases Nat.lt_or_ge at_ s.length with h' | h'
  ·exact h'
  ·rw [List.drop_eq_nil_of_le h'] at h; cases h
 rw [List.drop_eq_getElem_cons hlt] at h
 exact ⟨hlt, (List.cons.inj h).1, (List.cons.inj h).2⟩
theorem drop_nil {s : List UInt8} {at_ : Nat} (h : s.drop at_ = []) : s.length ≤ at_ := by simpa using h

def letP (c : Nat) : Prop := c = 95 ∨ (97 ≤ c ∧ c ≤ 122) ∨ (65 ≤ c ∧ c ≤ 90) ∨ (48 ≤ c ∧ c ≤ 57)
instance (c : Nat) : Decidable (letP c) := by unfold letP; infer_instance
def letB (c : UInt8) : Bool := decide (letP c.toNat)
def digB (c : UInt8) : Bool := decide (48 ≤ c.toNat ∧ c.toNat ≤ 57)
def nameB : List UInt8 → Bool
 | [] => false
 | c :: r => decide ((c :: r).length ≤ 200) && !digB c && (c :: r).all letB

theorem letter_some (c : UInt8) : label_letter.f (c.toNat : Int) = some (letB c) := by
 have key : ∀ b : Bool, (b = true ↔ letP c.toNat) → (some b : Option Bool) = some (letB c) := fun b hb => by
  unfold letB
  congr 1
  by_cases h : letP c.toNat
  ·rw [decide_eq_true h, hb.2 h]
  ·rw [decide_eq_false h]
   cases b with
   | false => rfl
   | true => exact absurd (hb.1 rfl) h
 unfold label_letter.f
 unfold letP at key
 (repeat' split) <;> (apply key; first | (rw [decide_eq_true_iff]; omega) | (constructor <;> intro h <;> first | omega | rfl | (exfalso; cases h) | (exfalso; omega)))
theorem isName_l0 (s : List UInt8) (hs : s.length ≤ 1000000) : ∀ (l : List UInt8) (i k : Nat), s.drop i = l → l.length < k → i ≤ s.length → label_IsName.l0 k (bs s) (s.length : Int) (i : Int) = some (l.all letB)
 | [], i, k, hd, hk, hi => by
  obtain ⟨k, rfl⟩ : ∃ m, k = m + 1 := ⟨k - 1, by omega⟩
  have := drop_nil hd
  rw [label_IsName.l0, if_neg (by omega)]
  rfl
 | c :: r, i, k, hd, hk, hi => by
  obtain ⟨k, rfl⟩ : ∃ m, k = m + 1 := ⟨k - 1, by omega⟩
  obtain ⟨hlt, hc, hr⟩ := drop_cons hd
  have hw : wrap64 ((i : Int) + 1) = ((i + 1 : Nat) : Int) := by unfold wrap64; omega
  rw [List.length_cons] at hk
  rw [label_IsName.l0, if_pos (by omega), if_pos (by omega), if_pos (by rw [bs_size]; omega), bs_at s i hlt, hc, letter_some, Option.bind_some, hw, isName_l0 s hs r (i + 1) k hr (by omega) (by omega), List.all_cons]
  cases letB c <;> rfl
theorem isName_some (l : List UInt8) (k : Nat) (hk : 300 ≤ k) : label_IsName.f k (bs l) = some (nameB l) := by
 obtain ⟨k, rfl⟩ : ∃ m, k = m + 1 := ⟨k - 1, by omega⟩
 unfold label_IsName.f
 rw [bs_toList]
 cases l with
 | nil => rw [if_pos rfl, label_IsName.j0, if_pos rfl]; rfl
 | cons c r =>
  rw [if_neg (by simp), bs_size]
  by_cases h2 : ((c :: r).length : Int) > 200
  ·rw [if_pos h2, label_IsName.j0, if_pos rfl]
   show some false = some (decide ((c :: r).length ≤ 200) && !digB c && (c :: r).all letB)
   rw [decide_eq_false (p := (c :: r).length ≤ 200) (by omega)]
   rfl
  ·have h0 : (0 : Int) < ((c :: r).length : Int) := by rw [List.length_cons]; omega
   have hb0 : bt (bs (c :: r)) 0 = (c.toNat : Int) := bs_at (c :: r) 0 (by simp)
   have hl := isName_l0 (c :: r) (by omega) (c :: r) 0 k rfl (by omega) (by omega)
   have e0 : ((0 : Nat) : Int) = 0 := rfl
   rw [e0] at hl
   rw [if_neg h2, if_pos h0, hb0]
   show _ = some (decide ((c :: r).length ≤ 200) && !decide (48 ≤ c.toNat ∧ c.toNat ≤ 57) && (c :: r).all letB)
   rw [decide_eq_true (by omega : (c :: r).length ≤ 200)]
   by_cases h48 : (c.toNat : Int) ≥ 48
   ·rw [if_pos h48]
    by_cases h57 : (c.toNat : Int) ≤ 57
    ·rw [decide_eq_true h57, label_IsName.j0, if_pos rfl, decide_eq_true (by omega : 48 ≤ c.toNat ∧ c.toNat ≤ 57)]
     rfl
    ·rw [decide_eq_false h57, label_IsName.j0, if_neg (by simp), bs_size, hl, decide_eq_false (by omega : ¬ (48 ≤ c.toNat ∧ c.toNat ≤ 57))]
     rfl
   ·rw [if_neg h48, label_IsName.j0, if_neg (by simp), bs_size, hl, decide_eq_false (by omega : ¬ (48 ≤ c.toNat ∧ c.toNat ≤ 57))]
    rfl
def nameR (s : List UInt8) (l : List UInt8) (i : Nat) : Bool := l.all letB && (decide (i > 0) || !(l.head?.any digB)) && decide (0 < s.length) && decide (s.length ≤ 200)
theorem refName_step (s : List UInt8) (k i : Nat) (c : UInt8) (hlt : i < s.length) (hc : s[i] = c) (hs : s.length ≤ 1000000) :
  soundingsref01_IsName.l0 (k + 1) (bs s) (i : Int) = if letP c.toNat ∧ ¬ (i = 0 ∧ 48 ≤ c.toNat ∧ c.toNat ≤ 57) then soundingsref01_IsName.l0 k (bs s) ((i + 1 : Nat) : Int) else some false := by
 have hw : wrap64 ((i : Int) + 1) = ((i + 1 : Nat) : Int) := by unfold wrap64; omega
 conv => lhs; unfold soundingsref01_IsName.l0
 rw [bs_at s i hlt, hc, hw, if_pos (by rw [bs_size]; omega), if_pos (by omega)]
 generalize soundingsref01_IsName.l0 k (bs s) ((i + 1 : Nat) : Int) = R
 unfold letP
 (repeat' split) <;> first | rfl | (exfalso; omega)
theorem refName_l0 (s : List UInt8) (hs : s.length ≤ 1000000) : ∀ (l : List UInt8) (i k : Nat), s.drop i = l → l.length < k → i ≤ s.length → soundingsref01_IsName.l0 k (bs s) (i : Int) = some (nameR s l i)
 | [], i, k, hd, hk, hi => by
  obtain ⟨k, rfl⟩ : ∃ m, k = m + 1 := ⟨k - 1, by omega⟩
  have := drop_nil hd
  rw [soundingsref01_IsName.l0, bs_size, if_neg (by omega)]
  unfold nameR
  by_cases h0 : (s.length : Int) > 0
  ·rw [if_pos h0, decide_eq_true (by omega : 0 < s.length)]
   simp
   omega
  ·rw [if_neg h0, decide_eq_false (by omega : ¬ 0 < s.length)]
   simp
 | c :: r, i, k, hd, hk, hi => by
  obtain ⟨k, rfl⟩ : ∃ m, k = m + 1 := ⟨k - 1, by omega⟩
  obtain ⟨hlt, hc, hr⟩ := drop_cons hd
  rw [List.length_cons] at hk
  rw [refName_step s k i c hlt hc hs, refName_l0 s hs r (i + 1) k hr (by omega) (by omega)]
  unfold nameR letB digB
  rw [List.all_cons, List.head?_cons, decide_eq_true (by omega : i + 1 > 0)]
  by_cases h1 : letP c.toNat
  ·by_cases h2 : i = 0 ∧ 48 ≤ c.toNat ∧ c.toNat ≤ 57
   ·rw [if_neg (fun h => h.2 h2)]
    simp [h2.1, h2.2]
   ·rw [if_pos ⟨h1, h2⟩, decide_eq_true h1]
    by_cases h3 : i > 0
    ·simp [h3]
    ·have h4 : ¬ (48 ≤ c.toNat ∧ c.toNat ≤ 57) := fun h => h2 ⟨by omega, h⟩
     rw [Option.any_some, decide_eq_false h4]
     simp
  ·rw [if_neg (fun h => h1 h.1), decide_eq_false h1]
   simp
theorem refName_some (l : List UInt8) (hs : l.length ≤ 1000000) (k : Nat) (hk : l.length < k) : soundingsref01_IsName.f k (bs l) = some (nameB l) := by
 have h := refName_l0 l hs l 0 k rfl hk (by omega)
 unfold soundingsref01_IsName.f
 have e0 : ((0 : Nat) : Int) = 0 := rfl
 rw [e0] at h
 rw [h]
 unfold nameR nameB
 cases l with
 | nil => rfl
 | cons c r =>
  rw [List.head?_cons]
  simp only [Option.any_some, gt_iff_lt, Nat.lt_irrefl, decide_false, Bool.false_or, List.length_cons, Nat.zero_lt_succ, decide_true, Bool.and_true]
  cases decide (r.length + 1 ≤ 200) <;> cases digB c <;> cases (c :: r).all letB <;> rfl
end Go.Proofs.YtfbockgjhbfidaaGreatDoor.Pr
end

section
set_option linter.unusedVariables false
set_option linter.unusedSimpArgs false
namespace Go.Proofs.YtfbockgjhbfidaaGreatDoor.Pr
open Go.RowKit Go.Proofs.YtfbockgjhbfidaaGreatDoorW.PrintWords Go.Proofs.YtfbockgjhbfidaaGreatDoorW.PrintLast Go.Proofs.YtfbockgjhbfidaaGreatDoorW.PrintMore

def LaidV (w : World) : Prop := Lib.Utf8Tabs 2 3 w
theorem LaidV.below {w w' : World} (h : LaidV w) (hb : Below w.heap.size w w') : LaidV w' := Go.Proofs.Utf8Tabs_below h hb
def valueB (s : ByteArray) : Bool := decide (s.size ≤ 200) && Lib.validD s.data.toList
def mayB (x : S44) : Bool := nameB x.f0.data.toList && valueB x.f1
theorem valid_any (s : ByteArray) (hs : s.size ≤ 9223372036854775807) (w : World) (hT : LaidV w) : Calls Tryz.prog 78 #[.string s] w fun e w' => e = .returned (.bool (Lib.validD s.data.toList)) ∧ Below w.heap.size w w' := Any.utf8_ValidString Tryz.lays196 s w hs hT
set_option maxHeartbeats 4000000 in
set_option maxRecDepth 100000 in
theorem value_any (s : ByteArray) (hs : s.size ≤ 9223372036854775807) (w : World) (hT : LaidV w) : Calls Tryz.prog 58 #[.string s] w fun e w' => e = .returned (.bool (valueB s)) ∧ Below w.heap.size w w' := by
 have HV := Aside0.mk (valid_any s hs w hT)
 clear hT
 unfold valueB
 generalize Lib.validD s.data.toList = b at *
 obtain ⟨n, hn⟩ : ∃ n, s.size = n := ⟨_, rfl⟩
 by_cases h : n ≤ 200
 ·have h2 : decide ((n : Int) ≤ 200) = true := decide_eq_true (by omega)
  rw [hn, decide_eq_true h]
  have h3 : (n : Int) ≤ 200 := by omega
  clear h hs
  go_enter Tryz.func58, Tryz.ntmps58
  go_wp2_with (go_at_call 78; refine HV.out.mono ?_; rintro e w' ⟨rfl, hb⟩)
  go_ret
  exact ⟨by simp, hb⟩
 ·rw [hn, decide_eq_false h]
  have h3 : ¬ (n : Int) ≤ 200 := by omega
  clear h hs
  go_enter Tryz.func58, Tryz.ntmps58
  go_wp2
  go_ret
  exact ⟨by simp, Below.refl _ _⟩
set_option maxHeartbeats 4000000 in
set_option maxRecDepth 100000 in
theorem may_any (x : S44) (hs : x.f1.size ≤ 9223372036854775807) (w : World) (hT : LaidV w) : Calls Tryz.prog 39 #[.agg #[.string x.f0, .string x.f1]] w fun e w' => e = .returned (.bool (mayB x)) ∧ Below w.heap.size w w' := by
 have hnm : label_IsName.f 300 x.f0 = some (nameB x.f0.data.toList) := by
  have h := isName_some x.f0.data.toList 300 (by decide)
  have e : bs x.f0.data.toList = x.f0 := by unfold bs; simp
  rw [e] at h
  exact h
 have HN : Aside0 (∀ w', Calls Tryz.prog 57 #[.string x.f0] w' fun e w'' => e = .returned (.bool (nameB x.f0.data.toList)) ∧ Drawn0 w' w'') := ⟨fun w' => label_IsName.calls 300 x.f0 _ w' hnm⟩
 clear hnm
 have HV : Aside0 (∀ w', Below w.heap.size w w' → Calls Tryz.prog 58 #[.string x.f1] w' fun e w'' => e = .returned (.bool (valueB x.f1)) ∧ Below w'.heap.size w' w'') := ⟨fun w' hb => value_any x.f1 hs w' (hT.below hb)⟩
 clear hT hs
 unfold mayB
 generalize valueB x.f1 = b2 at *
 generalize nameB x.f0.data.toList = b1 at *
 cases b1
 ·go_enter Tryz.func39, Tryz.ntmps39
  go_wp2_with (go_at_call 57; refine (HN.out _).mono ?_; rintro e w' ⟨rfl, n_, rfl⟩)
  go_ret
  exact ⟨rfl, by repeat (first | exact Below.refl _ _ | apply pw_below_drewN | apply below_alloc)⟩
 ·go_enter Tryz.func39, Tryz.ntmps39
  go_wp2_with (go_at_call 57; refine (HN.out _).mono ?_; rintro e w' ⟨rfl, n_, rfl⟩; clear HN)
  go_wp2_with (go_at_call 58; refine (HV.out _ (by repeat (first | exact Below.refl _ _ | apply pw_below_drewN | apply below_alloc))).mono ?_; rintro e w' ⟨rfl, hb⟩)
  go_ret
  exact ⟨by simp, below_step (by repeat (first | exact Below.refl _ _ | apply pw_below_drewN | apply below_alloc)) hb⟩
end Go.Proofs.YtfbockgjhbfidaaGreatDoor.Pr
end
