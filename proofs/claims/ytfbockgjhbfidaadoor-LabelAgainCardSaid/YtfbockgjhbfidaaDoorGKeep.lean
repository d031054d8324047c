/- Texts of this session, joined: LbHas, LbKeep, LbUKeep, LbUDrop. -/
import Derived.Test.YtfbockgjhbfidaaDoorGDel
import Derived.Test.YtfbockgjhbfidaaDoorWAt
import Derived.WalkMore
import Derived.Test.YtfbockgjhbfidaaDoorGLaid
section
/- names.has, slices.Contains and Index at names: walks. -/
set_option linter.unusedVariables false
set_option linter.unusedSimpArgs false
namespace Go.Proofs.YtfbockgjhbfidaaDoor.Pr
open Go.RowKit Go.Proofs.YtfbockgjhbfidaaDoorW.PrintWords Go.Proofs.YtfbockgjhbfidaaDoorW.PrintLast Go.Proofs.YtfbockgjhbfidaaDoorW.PrintMore

def sameB (s : ByteArray) (n : ByteArray) : Bool := s.toList == n.toList
def hasB (l : List ByteArray) (s : ByteArray) : Bool := l.any (sameB s)
theorem firstFrom_any {α : Type} (p : α → Bool) : ∀ (l : List α) (i : Nat), (firstFrom p l i).isSome = l.any p
  | [], _ => rfl
  | x :: r, i => by
    unfold firstFrom
    cases h : p x with
    | true => simp [h]
    | false => simp [h, firstFrom_any p r (i + 1)]
theorem firstOf_any {α : Type} (p : α → Bool) (l : List α) : decide (0 ≤ firstOf p l) = l.any p := by
  unfold firstOf
  rw [← firstFrom_any p l 0]
  cases firstFrom p l 0 with
  | none => rfl
  | some i => simp
set_option maxHeartbeats 2000000 in
set_option maxRecDepth 100000 in
theorem index_S (s : ByteArray) (A0 : Option Addr) (c0 : Nat) (l0 : List ByteArray) (w : World) (hr0 : Kd.C Kd.string w A0 l0.length l0) (hc0 : l0.length ≤ c0) (hb : l0.length ≤ 9223372036854775807) :
    Calls Tryd.prog 125 #[.slice A0 l0.length c0, .string s] w fun e w' => e = .returned (.int .i64 (firstOf (sameB s) l0)) ∧ Below w.heap.size w w' := by
  have HR0 := Aside0.mk hr0
  clear hr0 hc0
  go_enter Tryd.func125, Tryd.ntmps125
  go_wp2
  go_loopw [5, 8] (fun v5 v8 w' => ∃ (i : Nat), v8 = .int .i64 i ∧ i ≤ l0.length ∧ Aside0 (firstFrom (sameB s) (l0.drop i) i = firstFrom (sameB s) l0 0) ∧ Aside0 (Below w.heap.size w w')) (fun _ v8 _ => l0.length - (intOf v8).toNat)
  case atStart => exact ⟨0, rfl, Nat.zero_le _, ⟨by simp⟩, ⟨Below.refl _ _⟩⟩
  case round =>
    obtain ⟨i, rfl, hil, HI, HB1⟩ := hrel
    by_cases hlt : i < l0.length
    · obtain ⟨ai, ei, y0⟩ := Kd.at_string HR0.out (i : Nat) (by omega) (by omega)
      cases ei
      replace y0 := (HB1.out.cell (World.block_lt_of_cell? w _ y0)).trans y0
      obtain ⟨xi, hxi⟩ : ∃ x, x = rdOf ByteArray.empty l0 (i : Nat) := ⟨_, rfl⟩
      have hd : l0.drop i = xi :: l0.drop (i + 1) := by
        rw [List.drop_eq_getElem_cons hlt, hxi]; simp [rdOf, hlt]
      have hI := HI.out
      rw [hd, firstFrom] at hI
      rw [← hxi] at y0
      simp only [Int.toNat_natCast] at y0
      have hI2 := Aside0.mk hI
      clear hI hxi hd
      have hb0 : (0 : Int) ≤ (i : Int) := by omega
      have hb1 : (i : Int) < (l0.length : Int) := by omega
      cases hp : sameB s xi with
      | true =>
        have hp2 : (s.toList == xi.toList) = true := hp
        have HP := Aside0.mk hp
        clear hp
        go_wp2
        repeat (go_quiet (fail); try go_wp2)
        go_ret
        refine ⟨?_, by repeat (first | exact HB1.out | apply below_alloc | apply pw_below_drewN)⟩
        have h := hI2.out
        rw [if_pos HP.out] at h
        unfold firstOf
        rw [← h]
        rfl
      | false =>
        have hp2 : (s.toList == xi.toList) = false := hp
        have HP := Aside0.mk hp
        clear hp
        go_wp2
        repeat (go_quiet (fail); try go_wp2)
        go_roundw
        case rel => exact ⟨i + 1, by go_num, by omega, ⟨by have h := hI2.out; rw [if_neg (by rw [HP.out]; exact Bool.false_ne_true)] at h; exact h⟩, ⟨by repeat (first | exact HB1.out | apply below_alloc | apply pw_below_drewN)⟩⟩
        case measure => simp [intOf]; omega
    · have hI := Aside0.mk (show firstOf (sameB s) l0 = -1 from by have h := HI.out; rw [List.drop_eq_nil_of_le (by omega)] at h; unfold firstOf; rw [← h]; rfl)
      have hge : l0.length ≤ i := by omega
      clear hlt
      go_wp2
      go_ret
      exact ⟨by rw [hI.out]; rfl, HB1.out⟩
set_option maxHeartbeats 2000000 in
theorem contains_S (s : ByteArray) (A0 : Option Addr) (c0 : Nat) (l0 : List ByteArray) (w : World) (hr0 : Kd.C Kd.string w A0 l0.length l0) (hc0 : l0.length ≤ c0) (hb : l0.length ≤ 9223372036854775807) :
    Calls Tryd.prog 93 #[.slice A0 l0.length c0, .string s] w fun e w' => e = .returned (.bool (hasB l0 s)) ∧ Below w.heap.size w w' := by
  have HI := Aside0.mk (index_S s A0 c0 l0 w hr0 hc0 hb)
  have HA := Aside0.mk (firstOf_any (sameB s) l0)
  clear hr0 hc0 hb
  unfold hasB
  generalize firstOf (sameB s) l0 = q at *
  generalize l0.any (sameB s) = b at *
  go_enter Tryd.func93, Tryd.ntmps93
  go_wp2_with (go_at_call 125; refine HI.out.mono ?_; rintro e w' ⟨rfl, hb⟩)
  go_ret
  exact ⟨by rw [← HA.out]; rfl, hb⟩
set_option maxHeartbeats 4000000 in
theorem has_any (x : S46) (A0 : Option Addr) (c0 : Nat) (l0 : List ByteArray) (w : World) (hr0 : Kd.C Kd.string w A0 l0.length l0) (hc0 : l0.length ≤ c0) (hb : l0.length ≤ 9223372036854775807) :
    Calls Tryd.prog 61 #[.slice A0 l0.length c0, .agg #[.string x.f0, .string x.f1]] w fun e w' => e = .returned (.bool (hasB l0 x.f0)) ∧ Below w.heap.size w w' := by
  have HI := Aside0.mk (fun w' (hb' : Below w.heap.size w w') => contains_S x.f0 A0 c0 l0 w' (Kd.C_below hr0 hb') hc0 hb)
  clear hr0 hc0 hb
  generalize hasB l0 x.f0 = b at *
  generalize l0.length = n at *
  go_enter Tryd.func61, Tryd.ntmps61
  go_wp2_with (go_at_call 93; refine (HI.out _ (by repeat (first | exact Below.refl _ _ | apply below_alloc | apply pw_below_drewN | apply below_drew1))).mono ?_; rintro e w' ⟨rfl, hb⟩)
  go_ret
  exact ⟨rfl, below_step (by repeat (first | exact Below.refl _ _ | apply below_alloc | apply pw_below_drewN | apply below_drew1)) hb⟩
set_option maxHeartbeats 4000000 in
theorem keep1_any (x : S46) (g : Nat) (A0 : Option Addr) (c0 : Nat) (l0 : List ByteArray) (w : World) (hg : w.cell? ⟨g, 0, none⟩ = some (.slice A0 l0.length c0)) (hr0 : Kd.C Kd.string w A0 l0.length l0) (hc0 : l0.length ≤ c0) (hb : l0.length ≤ 9223372036854775807) :
    Calls Tryd.prog 60 #[.agg #[.string x.f0, .string x.f1], .pointer (some ⟨g, 0, none⟩)] w fun e w' => e = .returned (.bool (!hasB l0 x.f0)) ∧ Below w.heap.size w w' := by
  have HI := Aside0.mk (fun w' (hb' : Below w.heap.size w w') => has_any x A0 c0 l0 w' (Kd.C_below hr0 hb') hc0 hb)
  have hlt := World.block_lt_of_cell? w _ hg
  have hne : ¬ w.heap.size = g := by simp at hlt; omega
  have hne2 : ¬ g = w.heap.size := by simp at hlt; omega
  clear hr0 hc0 hb
  generalize hasB l0 x.f0 = b at *
  generalize l0.length = n at *
  go_enter Tryd.func60, Tryd.ntmps60
  go_wp2_with (go_at_call 61; refine (HI.out _ (by repeat (first | exact Below.refl _ _ | apply below_alloc | apply pw_below_drewN | apply below_drew1))).mono ?_; rintro e w' ⟨rfl, hb⟩)
  go_ret
  exact ⟨rfl, below_step (by repeat (first | exact Below.refl _ _ | apply below_alloc | apply pw_below_drewN | apply below_drew1)) hb⟩
end Go.Proofs.YtfbockgjhbfidaaDoor.Pr
end

section
/- label.Keep, Drop: walks. -/
set_option linter.unusedVariables false
set_option linter.unusedSimpArgs false
namespace Go.Proofs.YtfbockgjhbfidaaDoor.Pr
open Go.RowKit Go.Proofs.YtfbockgjhbfidaaDoorW.PrintWords Go.Proofs.YtfbockgjhbfidaaDoorW.PrintLast Go.Proofs.YtfbockgjhbfidaaDoorW.PrintMore

def keepL (l : List S46) (ns : List ByteArray) : List S46 := l.filter fun x => hasB ns x.f0
def dropL (l : List S46) (ns : List ByteArray) : List S46 := l.filter fun x => !hasB ns x.f0
set_option maxHeartbeats 4000000 in
theorem keep_any (A0 : Option Addr) (c0 : Nat) (l0 : List S46) (A1 : Option Addr) (c1 : Nat) (l1 : List ByteArray) (w : World) (hr0 : Kd.C k46 w A0 l0.length l0) (hc0 : l0.length ≤ c0) (hr1 : Kd.C Kd.string w A1 l1.length l1) (hc1 : l1.length ≤ c1) (hb0 : l0.length ≤ 1000) (hb1 : l1.length ≤ 1000000) :
    Calls Tryd.prog 29 #[.slice A0 l0.length c0, .slice A1 l1.length c1] w fun e w' => ∃ v0_ : Value, e = .returned v0_ ∧ Kd.R k46 46 w' w.heap.size (fun _ => True) v0_ (keepL l0 l1) ∧ Below w.heap.size w w' := by
  obtain ⟨w0, hw0⟩ : ∃ w0, w0 = w.alloc (.cells #[.slice A1 l1.length c1] 48) := ⟨_, rfl⟩
  have hb01 : Below w.heap.size w w0 := by rw [hw0]; exact below_alloc (Below.refl _ _) _
  have hg : w0.cell? ⟨w.heap.size, 0, none⟩ = some (.slice A1 l1.length c1) := by rw [hw0]; go_simp
  have HC := Aside0.mk (clone_Lb A0 c0 l0 w0 (Kd.C_below hr0 hb01) hc0 (by omega))
  have hk : keepL l0 l1 = l0.filter fun x => !(!hasB l1 x.f0) := by unfold keepL; congr 1; funext x; rw [Bool.not_not]
  have HD := Aside0.mk (fun (v : Value) (w2 : World) (HB : Below w0.heap.size w0 w2) (HO : Kd.R k46 46 w2 w0.heap.size (fun _ => True) v l0) =>
    deleteFunc_Lb (fun x => !hasB l1 x.f0) 60 #[.pointer (some ⟨w.heap.size, 0, none⟩)] w0.heap.size w0 w2 HB HB.size v l0 HO (by omega) (enters_of Tryd.func60 (by kernel_rfl) rfl)
      (fun x w3 hb3 => keep1_any x w.heap.size A1 c1 l1 w3 (pw_cell_below hb3 hg) (Kd.C_below (Kd.C_below hr1 hb01) hb3) hc1 (by omega)))
  rw [← hk] at HD
  have HB0 := Aside0.mk hb01
  have hsz : w.heap.size ≤ w0.heap.size := hb01.size
  have HSZ := Aside0.mk hsz
  clear hr0 hc0 hr1 hc1 hb0 hb1 hb01 hg hk hsz
  generalize keepL l0 l1 = res at *
  generalize l0.length = n0 at *
  generalize l1.length = n1 at *
  go_enter Tryd.func29, Tryd.ntmps29
  go_wp2_with (first
    | (go_at_call 51; rw [← hw0]; refine HC.out.mono ?_; rintro e w2 ⟨v, rfl, HO, hb2⟩; have HO2 := Aside0.mk HO; have HB2 := Aside0.mk hb2; clear HO hb2)
    | (go_at_call 55; refine (HD.out v w2 HB2.out HO2.out).mono ?_; rintro e w4 ⟨v4, rfl, HO, hb4⟩; have HO4 := Aside0.mk HO; have HB4 := Aside0.mk hb4; clear HO hb4))
  go_ret
  exact ⟨v4, rfl, Kd.R_lower HO4.out HSZ.out, below_step HB0.out HB4.out⟩
set_option maxHeartbeats 4000000 in
theorem drop_any (A0 : Option Addr) (c0 : Nat) (l0 : List S46) (A1 : Option Addr) (c1 : Nat) (l1 : List ByteArray) (w : World) (hr0 : Kd.C k46 w A0 l0.length l0) (hc0 : l0.length ≤ c0) (hr1 : Kd.C Kd.string w A1 l1.length l1) (hc1 : l1.length ≤ c1) (hb0 : l0.length ≤ 1000) (hb1 : l1.length ≤ 1000000) :
    Calls Tryd.prog 30 #[.slice A0 l0.length c0, .slice A1 l1.length c1] w fun e w' => ∃ v0_ : Value, e = .returned v0_ ∧ Kd.R k46 46 w' w.heap.size (fun _ => True) v0_ (dropL l0 l1) ∧ Below w.heap.size w w' := by
  have HC := Aside0.mk (clone_Lb A0 c0 l0 w hr0 hc0 (by omega))
  have HD := Aside0.mk (fun (v : Value) (w2 : World) (HB : Below w.heap.size w w2) (HO : Kd.R k46 46 w2 w.heap.size (fun _ => True) v l0) =>
    deleteFunc_LbP (fun x => hasB l1 x.f0) 61 #[.slice A1 l1.length c1] #[] w.heap.size w w2 HB HB.size v l0 HO (by omega) (enters_of Tryd.func61 (by kernel_rfl) rfl)
      (fun x w3 hb3 => has_any x A1 c1 l1 w3 (Kd.C_below hr1 hb3) hc1 (by omega)))
  have hk : dropL l0 l1 = l0.filter fun x => !hasB l1 x.f0 := rfl
  rw [← hk] at HD
  clear hr0 hc0 hr1 hc1 hb0 hb1 hk
  generalize dropL l0 l1 = res at *
  generalize l0.length = n0 at *
  generalize l1.length = n1 at *
  go_enter Tryd.func30, Tryd.ntmps30
  go_wp2_with (first
    | (go_at_call 51; refine HC.out.mono ?_; rintro e w2 ⟨v, rfl, HO, hb2⟩; have HO2 := Aside0.mk HO; have HB2 := Aside0.mk hb2; clear HO hb2)
    | (go_at_call 55; refine (HD.out v w2 HB2.out HO2.out).mono ?_; rintro e w4 ⟨v4, rfl, HO, hb4⟩; have HO4 := Aside0.mk HO; have HB4 := Aside0.mk hb4; clear HO hb4))
  go_ret
  exact ⟨v4, rfl, HO4.out, HB4.out⟩
end Go.Proofs.YtfbockgjhbfidaaDoor.Pr
end

section
/- label.Keep, as the print wants a function. -/
set_option linter.unusedVariables false
namespace Go.Proofs.YtfbockgjhbfidaaDoor.Pr
open Go.RowKit Go.Proofs.YtfbockgjhbfidaaDoorW.PrintWords

def label_Keep.f (l0 : List S46) (l1 : List ByteArray) : Option (List S46) := if l0.length ≤ 1000 ∧ l1.length ≤ 1000000 then some (keepL l0 l1) else none
theorem label_Keep.calls (A0 : Option Addr) (c0 : Nat) (l0 : List S46) (A1 : Option Addr) (c1 : Nat) (l1 : List ByteArray) (r : List S46) (w : World) (hr0 : Kd.C k46 w A0 l0.length l0) (hc0 : l0.length ≤ c0) (hr1 : Kd.C Kd.string w A1 l1.length l1) (hc1 : l1.length ≤ c1) (hL_ : Aside0 (LaidAll w)) (h : label_Keep.f l0 l1 = some r) :
    Calls Tryd.prog 29 #[.slice A0 l0.length c0, .slice A1 l1.length c1] w fun e w' => ∃ v0_ : Value, e = .returned v0_ ∧ Kd.R k46 46 w' w.heap.size (fun _ => True) v0_ r ∧ Below w.heap.size w w' := by
  unfold label_Keep.f at h
  by_cases hs : l0.length ≤ 1000 ∧ l1.length ≤ 1000000
  · rw [if_pos hs] at h
    have h3 := Option.some.inj h
    rw [← h3]
    exact keep_any A0 c0 l0 A1 c1 l1 w hr0 hc0 hr1 hc1 hs.1 hs.2
  · rw [if_neg hs] at h
    cases h
end Go.Proofs.YtfbockgjhbfidaaDoor.Pr
end

section
/- label.Drop, as the print wants a function. -/
set_option linter.unusedVariables false
namespace Go.Proofs.YtfbockgjhbfidaaDoor.Pr
open Go.RowKit Go.Proofs.YtfbockgjhbfidaaDoorW.PrintWords

def label_Drop.f (l0 : List S46) (l1 : List ByteArray) : Option (List S46) := if l0.length ≤ 1000 ∧ l1.length ≤ 1000000 then some (dropL l0 l1) else none
theorem label_Drop.calls (A0 : Option Addr) (c0 : Nat) (l0 : List S46) (A1 : Option Addr) (c1 : Nat) (l1 : List ByteArray) (r : List S46) (w : World) (hr0 : Kd.C k46 w A0 l0.length l0) (hc0 : l0.length ≤ c0) (hr1 : Kd.C Kd.string w A1 l1.length l1) (hc1 : l1.length ≤ c1) (hL_ : Aside0 (LaidAll w)) (h : label_Drop.f l0 l1 = some r) :
    Calls Tryd.prog 30 #[.slice A0 l0.length c0, .slice A1 l1.length c1] w fun e w' => ∃ v0_ : Value, e = .returned v0_ ∧ Kd.R k46 46 w' w.heap.size (fun _ => True) v0_ r ∧ Below w.heap.size w w' := by
  unfold label_Drop.f at h
  by_cases hs : l0.length ≤ 1000 ∧ l1.length ≤ 1000000
  · rw [if_pos hs] at h
    have h3 := Option.some.inj h
    rw [← h3]
    exact drop_any A0 c0 l0 A1 c1 l1 w hr0 hc0 hr1 hc1 hs.1 hs.2
  · rw [if_neg hs] at h
    cases h
end Go.Proofs.YtfbockgjhbfidaaDoor.Pr
end
