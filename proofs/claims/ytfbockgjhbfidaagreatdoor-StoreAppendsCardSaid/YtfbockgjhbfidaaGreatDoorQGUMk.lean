/- Texts of this session, cut down to what one claim needs and joined: LbURight, LbUMake. -/
import Derived.Test.YtfbockgjhbfidaaGreatDoorQLbRight
import Derived.Test.YtfbockgjhbfidaaGreatDoorQGLaid
import Derived.Test.YtfbockgjhbfidaaGreatDoorQGMk
section
set_option linter.unusedVariables false
namespace Go.Proofs.YtfbockgjhbfidaaGreatDoor.Pr
open Go.RowKit Go.Proofs.YtfbockgjhbfidaaGreatDoorW.PrintWords

def smallL (l : List S44) : Prop := l.length ≤ 1000 ∧ ∀ x ∈ l, x.f1.size ≤ 9223372036854775807
instance (l : List S44) : Decidable (smallL l) := by unfold smallL; infer_instance
def label_Right.f (l0 : List S44) : Option Bool := if smallL l0 then some (rightB l0) else none
theorem label_Right.calls (A0 : Option Addr) (c0 : Nat) (l0 : List S44) (r : Bool) (w : World) (hr0 : Kd.C k44 w A0 l0.length l0) (hc0 : l0.length ≤ c0) (hL_ : Aside0 (LaidAll w)) (h : label_Right.f l0 = some r) :
  Calls Tryz.prog 33 #[.slice A0 l0.length c0] w fun e w' => e = .returned (.bool r) ∧ Below w.heap.size w w' := by
 unfold label_Right.f at h
 by_cases hs : smallL l0
 ·rw [if_pos hs] at h
  have h3 := Option.some.inj h
  rw [← h3]
  exact right_any A0 c0 l0 w hr0 hc0 hs.1 hs.2 hL_.out.2
 ·rw [if_neg hs] at h
  cases h
end Go.Proofs.YtfbockgjhbfidaaGreatDoor.Pr
end

section
set_option linter.unusedVariables false
namespace Go.Proofs.YtfbockgjhbfidaaGreatDoor.Pr
open Go.RowKit Go.Proofs.YtfbockgjhbfidaaGreatDoorW.PrintWords

/-- Labels in order (an insertion). -/
def insL (x : S44) : List S44 → List S44
 | [] => [x]
 | y :: r => if cmpL x y ≤ 0 then x :: y :: r else y :: insL x r
def sortL : List S44 → List S44
 | [] => []
 | x :: r => insL x (sortL r)
theorem insL_perm (x : S44) : ∀ l, (insL x l).Perm (x :: l)
 | [] => List.Perm.refl _
 | y :: r => by
  unfold insL
  split
  ·exact List.Perm.refl _
  ·exact ((insL_perm x r).cons y).trans (List.Perm.swap x y r)
theorem sortL_perm : ∀ l, (sortL l).Perm l
 | [] => List.Perm.refl _
 | x :: r => (insL_perm x (sortL r)).trans ((sortL_perm r).cons x)
theorem insL_sorted (x : S44) : ∀ l, Sorted l → Sorted (insL x l)
 | [], _ => List.pairwise_singleton _ _
 | y :: r, h => by
  unfold Sorted at h
  rw [List.pairwise_cons] at h
  unfold insL
  split
  ·rename_i hxy
   unfold Sorted
   rw [List.pairwise_cons, List.pairwise_cons]
   exact ⟨fun z hz => by
    rcases List.mem_cons.1 hz with rfl | hz
    ·exact hxy
    ·exact cmpL_trans hxy (h.1 z hz), h⟩
  ·rename_i hxy
   unfold Sorted
   rw [List.pairwise_cons]
   refine ⟨fun z hz => ?_, insL_sorted x r h.2⟩
   rcases List.mem_cons.1 ((insL_perm x r).subset hz) with rfl | hz
   ·rw [cmpL_neg]; omega
   ·exact h.1 z hz
theorem sortL_sorted : ∀ l, Sorted (sortL l)
 | [] => List.Pairwise.nil
 | x :: r => insL_sorted x _ (sortL_sorted r)
theorem sorted_unique {a b : List S44} (ha : Sorted a) (hb : Sorted b) (h : a.Perm b) : a = b :=
 List.Perm.eq_of_pairwise (fun x y _ _ h1 h2 => (cmpL_zero x y).1 (by rw [cmpL_neg] at h2; omega)) ha hb h
def label_Make.f (l0 : List S44) : Option (List S44 × Option Int) := if smallL l0 then some (makeV (sortL l0)) else none
theorem label_Make.calls (A0 : Option Addr) (c0 : Nat) (l0 : List S44) (r1 : List S44) (r2 : Option Int) (w : World) (hr0 : Kd.C k44 w A0 l0.length l0) (hc0 : l0.length ≤ c0) (hL_ : Aside0 (LaidAll w)) (h : label_Make.f l0 = some (r1, r2)) :
  Calls Tryz.prog 18 #[.slice A0 l0.length c0] w fun e w' => ∃ v0_ : Value, e = .returned (.tuple #[v0_, errW r2]) ∧ Kd.R k44 44 w' w.heap.size (fun _ => True) v0_ r1 ∧ Below w.heap.size w w' := by
 unfold label_Make.f at h
 by_cases hs : smallL l0
 ·rw [if_pos hs] at h
  have h3 := Option.some.inj h
  refine (make_loop A0 c0 l0 w hL_.out hr0 hc0 hs.1 hs.2).mono ?_
  rintro e w' ⟨l, hp, hso, v0_, he, hR, hB⟩
  have hl : l = sortL l0 := sorted_unique hso (sortL_sorted l0) (hp.trans (sortL_perm l0).symm)
  rw [hl, h3] at he hR
  exact ⟨v0_, he, hR, hB⟩
 ·rw [if_neg hs] at h
  cases h
end Go.Proofs.YtfbockgjhbfidaaGreatDoor.Pr
end
