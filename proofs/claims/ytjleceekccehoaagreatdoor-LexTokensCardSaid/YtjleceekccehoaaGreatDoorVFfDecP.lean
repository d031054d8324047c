/- Texts of this session, cut down to what one claim needs and joined: FfDecP. -/
import GoSem.PinnedTables
import Derived.KernelRfl
namespace Go.Proofs.YtjleceekccehoaaGreatDoor.Dec

/-- The number that digits are. -/
def val : List Nat → Nat
 | [] => 0
 | d :: r => d * 10 ^ r.length + val r
def Dig (l : List Nat) : Prop := ∀ d ∈ l, d ≤ 9
theorem val_lt (l : List Nat) (h : Dig l) : val l < 10 ^ l.length := by
 induction l with
 | nil => simp [val]
 | cons d r ih =>
  have h1 := ih (fun x hx => h x (List.mem_cons_of_mem _ hx))
  have h2 := h d (List.mem_cons_self ..)
  simp only [val, List.length_cons, Nat.pow_succ]
  have h3 : d * 10 ^ r.length ≤ 9 * 10 ^ r.length := Nat.mul_le_mul_right _ h2
  omega
/-- Is b less than s, as digits behind a point, s being no prefix of it (strconv's prefixIsLessThan)? -/
def pfx : List Nat → List Nat → Bool
 | _, [] => false
 | [], _ :: _ => true
 | b :: br, s :: sr => if b = s then pfx br sr else decide (b < s)
theorem pfx_val : ∀ (s b : List Nat), Dig s → Dig b → (∀ k, k < s.length → 0 < val (s.drop k)) → (pfx b s = true ↔ val b * 10 ^ s.length < val s * 10 ^ b.length) := by
 intro s
 induction s with
 | nil => intro b _ _ _; cases b <;> simp [pfx, val]
 | cons c sr ih =>
  intro b hs hb hn
  cases b with
  | nil =>
   have := hn 0 (by simp)
   simp only [List.drop_zero] at this
   simp [pfx, val] at this ⊢
   omega
  | cons d br =>
   have hs2 : Dig sr := fun x hx => hs x (List.mem_cons_of_mem _ hx)
   have hb2 : Dig br := fun x hx => hb x (List.mem_cons_of_mem _ hx)
   have hn2 : ∀ k, k < sr.length → 0 < val (sr.drop k) := fun k hk => by have := hn (k + 1) (by simp; omega); simpa using this
   have hi := ih br hs2 hb2 hn2
   have v1 := val_lt sr hs2
   have v2 := val_lt br hb2
   have e1 : val (d :: br) * 10 ^ (c :: sr).length = (d * (10 ^ br.length * 10 ^ sr.length) + val br * 10 ^ sr.length) * 10 := by
    show (d * 10 ^ br.length + val br) * (10 ^ sr.length * 10) = _
    rw [← Nat.mul_assoc, Nat.add_mul, Nat.mul_assoc d]
   have e2 : val (c :: sr) * 10 ^ (d :: br).length = (c * (10 ^ br.length * 10 ^ sr.length) + val sr * 10 ^ br.length) * 10 := by
    show (c * 10 ^ sr.length + val sr) * (10 ^ br.length * 10) = _
    rw [← Nat.mul_assoc, Nat.add_mul, Nat.mul_assoc c, Nat.mul_comm (10 ^ sr.length)]
   rw [e1, e2]
   have w1 : val sr * 10 ^ br.length < 10 ^ br.length * 10 ^ sr.length := by rw [Nat.mul_comm (10 ^ br.length)]; exact Nat.mul_lt_mul_of_pos_right v1 (Nat.pow_pos (by decide))
   have w2 : val br * 10 ^ sr.length < 10 ^ br.length * 10 ^ sr.length := Nat.mul_lt_mul_of_pos_right v2 (Nat.pow_pos (by decide))
   generalize 10 ^ br.length * 10 ^ sr.length = P at *
   generalize val sr * 10 ^ br.length = X at *
   generalize val br * 10 ^ sr.length = Y at *
   simp only [pfx]
   by_cases h : d = c
   ·subst h
    rw [if_pos rfl, hi]; omega
   ·rw [if_neg h, decide_eq_true_eq]
    constructor
    ·intro hlt
     have : (d + 1) * P ≤ c * P := Nat.mul_le_mul_right _ hlt
     rw [Nat.add_mul] at this; omega
    ·intro hlt
     rcases Nat.lt_or_ge d c with h1 | h1
     ·exact h1
     ·have : (c + 1) * P ≤ d * P := Nat.mul_le_mul_right _ (by omega)
      rw [Nat.add_mul] at this; omega
/-- Row k of the cheat sheet: how many digits more, and the digits of 5^k. -/
def cheat (k : Nat) : Nat × List UInt8 := Go.Pinned.cheatRows.getD k (0, [])
def cutD (k : Nat) : List Nat := (cheat k).2.map fun c => c.toNat - 48
theorem cheat_rows : Go.Pinned.cheatRows.length = 61 := by decide +kernel
/-- What the cheat sheet holds: 5^k in digits, none a nought at the end; how many digits 2^k has. -/
def cheatOk (k : Nat) : Bool := decide (val (cutD k) = 5 ^ k) && decide ((cutD k).length + ((cheat k).1 - 1) = k) && decide (1 ≤ (cheat k).1) && decide (10 ^ ((cheat k).1 - 1) ≤ 2 ^ k) && decide (2 ^ k < 10 ^ (cheat k).1) && (cutD k).all (fun d => decide (d ≤ 9)) && (cheat k).2.all (fun c => decide (48 ≤ c.toNat && c.toNat ≤ 57))
theorem cheats_ok : ∀ k, k < 60 → cheatOk (k + 1) = true := by
 have h : ((List.range 60).all fun k => cheatOk (k + 1)) = true := by decide +kernel
 intro k hk
 exact List.all_eq_true.1 h k (List.mem_range.2 hk)
theorem cheat_spec (k : Nat) (h1 : 1 ≤ k) (h2 : k ≤ 60) : val (cutD k) = 5 ^ k ∧ (cutD k).length + ((cheat k).1 - 1) = k ∧ 1 ≤ (cheat k).1 ∧ 10 ^ ((cheat k).1 - 1) ≤ 2 ^ k ∧ 2 ^ k < 10 ^ (cheat k).1 ∧ Dig (cutD k) := by
 have h := cheats_ok (k - 1) (by omega)
 rw [show k - 1 + 1 = k from by omega] at h
 simp only [cheatOk, Bool.and_eq_true, decide_eq_true_eq, List.all_eq_true] at h
 exact ⟨h.1.1.1.1.1.1, h.1.1.1.1.1.2, h.1.1.1.1.2, h.1.1.1.2, h.1.1.2, fun d hd => h.1.2 d hd⟩
theorem cut_pos (k : Nat) (h1 : 1 ≤ k) (h2 : k ≤ 60) : ∀ j, j < (cutD k).length → 0 < val ((cutD k).drop j) := by
 have h : ((List.range 60).all fun k => (List.range (cutD (k + 1)).length).all fun j => decide (0 < val ((cutD (k + 1)).drop j))) = true := by decide +kernel
 intro j hj
 have h3 := List.all_eq_true.1 h (k - 1) (List.mem_range.2 (by omega))
 rw [show k - 1 + 1 = k from by omega] at h3
 have h4 := List.all_eq_true.1 h3 j (List.mem_range.2 hj)
 exact of_decide_eq_true h4
/-- How many digits more. -/
def more (k : Nat) (l : List Nat) : Nat := if pfx l (cutD k) = true then (cheat k).1 - 1 else (cheat k).1
/-- What is carried out of all digits. -/
def carry (k : Nat) (l : List Nat) : Nat := val l * 2 ^ k / 10 ^ l.length
theorem carry_cons (k d : Nat) (l : List Nat) : carry k (d :: l) = (d * 2 ^ k + carry k l) / 10 := by
 unfold carry
 simp only [val, List.length_cons, Nat.pow_succ, Nat.add_mul]
 rw [← Nat.div_div_eq_div_mul]
 congr 1
 rw [show d * 10 ^ l.length * 2 ^ k = d * 2 ^ k * 10 ^ l.length from by rw [Nat.mul_assoc, Nat.mul_comm (10 ^ l.length), ← Nat.mul_assoc], Nat.add_comm, Nat.add_mul_div_right _ _ (Nat.pow_pos (by decide)), Nat.add_comm]
theorem ten (k : Nat) : 10 ^ k = 2 ^ k * 5 ^ k := by rw [← Nat.mul_pow]
theorem carry_lt (k : Nat) (l : List Nat) (hl : Dig l) : carry k l < 2 ^ k := by
 unfold carry
 rw [Nat.div_lt_iff_lt_mul (Nat.pow_pos (by decide)), Nat.mul_comm]
 exact Nat.mul_lt_mul_of_pos_left (val_lt l hl) (Nat.pow_pos (by decide))
theorem left_hi (k : Nat) (h1 : 1 ≤ k) (h2 : k ≤ 60) (l : List Nat) (hl : Dig l) : carry k l < 10 ^ more k l := by
 obtain ⟨c1, c2, c3, c4, c5, c6⟩ := cheat_spec k h1 h2
 unfold more
 by_cases h : pfx l (cutD k) = true
 ·rw [if_pos h]
  have h3 := (pfx_val (cutD k) l c6 hl (cut_pos k h1 h2)).1 h
  rw [c1] at h3
  unfold carry
  rw [Nat.div_lt_iff_lt_mul (Nat.pow_pos (by decide))]
  have e : 10 ^ k = 10 ^ ((cheat k).1 - 1) * 10 ^ (cutD k).length := by rw [← Nat.pow_add]; congr 1; omega
  have h4 : val l * 2 ^ k * 10 ^ (cutD k).length < 10 ^ ((cheat k).1 - 1) * 10 ^ l.length * 10 ^ (cutD k).length := by
   have h5 := Nat.mul_lt_mul_of_pos_right h3 (Nat.pow_pos (n := k) (show 0 < 2 by decide))
   calc val l * 2 ^ k * 10 ^ (cutD k).length = val l * 10 ^ (cutD k).length * 2 ^ k := by rw [Nat.mul_assoc, Nat.mul_comm (2 ^ k), ← Nat.mul_assoc]
    _ < 5 ^ k * 10 ^ l.length * 2 ^ k := h5
    _ = 10 ^ k * 10 ^ l.length := by rw [ten k, Nat.mul_comm (2 ^ k), Nat.mul_right_comm]
    _ = 10 ^ ((cheat k).1 - 1) * 10 ^ l.length * 10 ^ (cutD k).length := by rw [e, Nat.mul_assoc, Nat.mul_comm (10 ^ (cutD k).length), ← Nat.mul_assoc]
  exact Nat.lt_of_mul_lt_mul_right h4
 ·rw [if_neg h]
  exact Nat.lt_trans (carry_lt k l hl) c5
theorem left_lo (k : Nat) (h1 : 1 ≤ k) (h2 : k ≤ 60) (l : List Nat) (hl : Dig l) (hv : 10 ^ (l.length - 1) ≤ val l) (hn : 1 ≤ l.length) (hm : 1 ≤ more k l) : 10 ^ (more k l - 1) ≤ carry k l := by
 obtain ⟨c1, c2, c3, c4, c5, c6⟩ := cheat_spec k h1 h2
 unfold more at hm ⊢
 unfold carry
 rw [Nat.le_div_iff_mul_le (Nat.pow_pos (by decide))]
 by_cases h : pfx l (cutD k) = true
 ·rw [if_pos h] at hm ⊢
  have e1 : 10 ^ l.length = 10 ^ (l.length - 1) * 10 := by rw [← Nat.pow_succ]; congr 1; omega
  have e2 : 10 ^ ((cheat k).1 - 1) = 10 ^ ((cheat k).1 - 1 - 1) * 10 := by rw [← Nat.pow_succ]; congr 1; omega
  rw [e1, ← Nat.mul_assoc, Nat.mul_right_comm, ← e2]
  calc 10 ^ ((cheat k).1 - 1) * 10 ^ (l.length - 1) ≤ 2 ^ k * 10 ^ (l.length - 1) := Nat.mul_le_mul_right _ c4
   _ ≤ 2 ^ k * val l := Nat.mul_le_mul_left _ hv
   _ = val l * 2 ^ k := Nat.mul_comm ..
 ·rw [if_neg h] at hm ⊢
  have h3 : ¬ (val l * 10 ^ (cutD k).length < val (cutD k) * 10 ^ l.length) := fun hc => h ((pfx_val (cutD k) l c6 hl (cut_pos k h1 h2)).2 hc)
  rw [c1] at h3
  have h4 := Nat.mul_le_mul_right (2 ^ k) (Nat.le_of_not_lt h3)
  have e : 10 ^ k = 10 ^ ((cheat k).1 - 1) * 10 ^ (cutD k).length := by rw [← Nat.pow_add]; congr 1; omega
  have h5 : 10 ^ ((cheat k).1 - 1) * 10 ^ l.length * 10 ^ (cutD k).length ≤ val l * 2 ^ k * 10 ^ (cutD k).length := by
   calc 10 ^ ((cheat k).1 - 1) * 10 ^ l.length * 10 ^ (cutD k).length = 10 ^ k * 10 ^ l.length := by rw [e, Nat.mul_assoc, Nat.mul_comm (10 ^ l.length), ← Nat.mul_assoc]
    _ = 5 ^ k * 10 ^ l.length * 2 ^ k := by rw [ten k, Nat.mul_comm (2 ^ k), Nat.mul_right_comm]
    _ ≤ val l * 10 ^ (cutD k).length * 2 ^ k := h4
    _ = val l * 2 ^ k * 10 ^ (cutD k).length := by rw [Nat.mul_assoc, Nat.mul_comm (10 ^ (cutD k).length), ← Nat.mul_assoc]
  exact Nat.le_of_mul_le_mul_right h5 (Nat.pow_pos (by decide))
end Go.Proofs.YtjleceekccehoaaGreatDoor.Dec
