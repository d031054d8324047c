/- Texts of this session, cut down to what one claim needs and joined: FfBase. -/
import Derived.Test.YtjleceekccehoaaGreatDoorBPr0
import Derived.WalkKit
import Derived.WalkSpells
import Derived.WalkLawsBesides
import Derived.ChangeAlike
import Derived.RegionTactic
import Derived.Laws.Rows
import Derived.IntWalk
import Derived.Outline
set_option linter.unusedVariables false
set_option linter.unusedSimpArgs false
namespace Go.Proofs.YtjleceekccehoaaGreatDoor.Pr
open Go.RowKit Go.Proofs.YtjleceekccehoaaGreatDoorW.PrintWords Go.Proofs.YtjleceekccehoaaGreatDoorW.PrintLast Go.Proofs.YtjleceekccehoaaGreatDoorW.PrintMore

/-- Block g holds just these cells, none frozen. -/
def Blk (w : World) (g : Nat) (t : TypeId) (cs : Array Value) : Prop := w.heap[g]? = some (.cells cs t (0, 0))
section
variable {w w' : World} {g : Nat} {t : TypeId} {cs : Array Value}
theorem Blk.lt (h : Blk w g t cs) : g < w.heap.size := by
  rcases Nat.lt_or_ge g w.heap.size with hlt | hge
  · exact hlt
  · unfold Blk at h; rw [Array.getElem?_eq_none hge] at h; cases h
theorem Blk.cell (h : Blk w g t cs) (i : Nat) : w.cell? ⟨g, i, none⟩ = cs[i]? := cell_of_row w g i cs t (0, 0) h
theorem Blk.frozen (h : Blk w g t cs) (i : Nat) : w.frozen? ⟨g, i, none⟩ = false := by
  unfold Blk at h
  simp [World.frozen?, h]
theorem Blk.drewN (h : Blk w g t cs) (n : Nat) : Blk (w.drewN n) g t cs := h
theorem Blk.set_ (h : Blk w g t cs) (i : Nat) (u : Value) : Blk (w.setCell ⟨g, i, none⟩ u) g t (cs.setIfInBounds i u) := by
  unfold Blk at h ⊢
  simp [World.setCell, Array.getElem?_modify, h]
end



/-- Block g alone is written to. -/
def KB (w w' : World) (g : Nat) : Prop := KeepBut w w' g none ∧ Below g w w'
theorem KB.refl (w : World) (g : Nat) : KB w w g := ⟨KeepBut.refl _ _ _, Below.refl _ _⟩
theorem KB.set_ {w w1 : World} {g : Nat} (h : KB w w1 g) (j : Nat) (u : Value) : KB w (w1.setCell ⟨g, j, none⟩ u) g := ⟨h.1.set_ _ _, h.2.setCell (p := ⟨g, j, none⟩) (Nat.le_refl _) u⟩
theorem KB.drewN {w w1 : World} {g : Nat} (h : KB w w1 g) (n : Nat) : KB w (w1.drewN n) g := ⟨keep_drewN h.1 n, pw_below_drewN h.2 n⟩
def smalls : ByteArray := ⟨#[48, 48, 48, 49, 48, 50, 48, 51, 48, 52, 48, 53, 48, 54, 48, 55, 48, 56, 48, 57, 49, 48, 49, 49, 49, 50, 49, 51, 49, 52, 49, 53, 49, 54, 49, 55, 49, 56, 49, 57, 50, 48, 50, 49, 50, 50, 50, 51, 50, 52, 50, 53, 50, 54, 50, 55, 50, 56, 50, 57, 51, 48, 51, 49, 51, 50, 51, 51, 51, 52, 51, 53, 51, 54, 51, 55, 51, 56, 51, 57, 52, 48, 52, 49, 52, 50, 52, 51, 52, 52, 52, 53, 52, 54, 52, 55, 52, 56, 52, 57, 53, 48, 53, 49, 53, 50, 53, 51, 53, 52, 53, 53, 53, 54, 53, 55, 53, 56, 53, 57, 54, 48, 54, 49, 54, 50, 54, 51, 54, 52, 54, 53, 54, 54, 54, 55, 54, 56, 54, 57, 55, 48, 55, 49, 55, 50, 55, 51, 55, 52, 55, 53, 55, 54, 55, 55, 55, 56, 55, 57, 56, 48, 56, 49, 56, 50, 56, 51, 56, 52, 56, 53, 56, 54, 56, 55, 56, 56, 56, 57, 57, 48, 57, 49, 57, 50, 57, 51, 57, 52, 57, 53, 57, 54, 57, 55, 57, 56, 57, 57]⟩
/-- The byte of 'smalls' at a place. -/
def sm (i : Int) : Int := if h : i.toNat < smalls.size then ((smalls[i.toNat]'h).toNat : Int) else 0
def st2 (m : Nat) (x : Int) (ds : List Int) : List Int := (ds.set (m - 1) (sm (x + 1))).set (m - 2) (sm x)
def r8 (m : Nat) (u : Int) (ds : List Int) : List Int :=
  st2 (m - 6) (u % 100000000 / 10000 / 100 * 2) (st2 (m - 4) (u % 100000000 / 10000 % 100 * 2) (st2 (m - 2) (u % 10000 / 100 * 2) (st2 m (u % 100 * 2) ds)))
def t1 (m : Nat) (x : Int) (ds : List Int) : List Int := if 0 < m then ds.set 0 ((48 + x) % 256) else ds
def t2 (m : Nat) (x : Int) (ds : List Int) : List Int := if 2 ≤ m then t1 (m - 2) (x / 100) (st2 m (x % 100 * 2) ds) else t1 m x ds
def t4 (m : Nat) (x : Int) (ds : List Int) : List Int := if 4 ≤ m then t2 (m - 4) (x / 10000) (st2 (m - 2) (x % 10000 / 100 * 2) (st2 m (x % 100 * 2) ds)) else t2 m x ds
def b10 : Nat → Nat → Int → List Int → List Int
  | 0, _, _, ds => ds
  | k + 1, m, u, ds => if 8 ≤ m then b10 k (m - 8) (u / 100000000) (r8 m u ds) else t4 m (u % 4294967296) ds
theorem st2_len (m : Nat) (x : Int) (ds : List Int) : (st2 m x ds).length = ds.length := by simp [st2]
theorem r8_len (m : Nat) (x : Int) (ds : List Int) : (r8 m x ds).length = ds.length := by simp [r8, st2_len]
theorem t1_len (m : Nat) (x : Int) (ds : List Int) : (t1 m x ds).length = ds.length := by unfold t1; split <;> simp
theorem t2_len (m : Nat) (x : Int) (ds : List Int) : (t2 m x ds).length = ds.length := by unfold t2; split <;> simp [t1_len, st2_len]
theorem t4_len (m : Nat) (x : Int) (ds : List Int) : (t4 m x ds).length = ds.length := by unfold t4; split <;> simp [t2_len, st2_len]
theorem b10_len (k : Nat) : ∀ (m : Nat) (x : Int) (ds : List Int), (b10 k m x ds).length = ds.length := by
  induction k with
  | zero => intro m x ds; rfl
  | succ k ih => intro m x ds; unfold b10; split <;> simp [ih, r8_len, t4_len]
def u8s (ds : List Int) : Array Value := (ds.map (Value.int .u8)).toArray
theorem u8s_set (ds : List Int) (i : Nat) (x : Int) : (u8s ds).setIfInBounds i (.int .u8 x) = u8s (ds.set i x) := by simp [u8s, List.map_set]
theorem Blk.st {w : World} {g t : Nat} {ds : List Int} (h : Blk w g t (u8s ds)) (i : Nat) (x : Int) : Blk (w.setCell ⟨g, i, none⟩ (.int .u8 x)) g t (u8s (ds.set i x)) := by
  rw [← u8s_set]; exact h.set_ i _
theorem Blk.at_ {w : World} {g t : Nat} {ds : List Int} (h : Blk w g t (u8s ds)) (i : Nat) (hi : i < ds.length) : ∃ d, w.cell? ⟨g, i, none⟩ = some (.int .u8 d) :=
  ⟨ds[i]'hi, by rw [h.cell]; simp [u8s, List.getElem?_eq_getElem hi]⟩
theorem sm_eq (i : Int) (h : i.toNat < (⟨#[48, 48, 48, 49, 48, 50, 48, 51, 48, 52, 48, 53, 48, 54, 48, 55, 48, 56, 48, 57, 49, 48, 49, 49, 49, 50, 49, 51, 49, 52, 49, 53, 49, 54, 49, 55, 49, 56, 49, 57, 50, 48, 50, 49, 50, 50, 50, 51, 50, 52, 50, 53, 50, 54, 50, 55, 50, 56, 50, 57, 51, 48, 51, 49, 51, 50, 51, 51, 51, 52, 51, 53, 51, 54, 51, 55, 51, 56, 51, 57, 52, 48, 52, 49, 52, 50, 52, 51, 52, 52, 52, 53, 52, 54, 52, 55, 52, 56, 52, 57, 53, 48, 53, 49, 53, 50, 53, 51, 53, 52, 53, 53, 53, 54, 53, 55, 53, 56, 53, 57, 54, 48, 54, 49, 54, 50, 54, 51, 54, 52, 54, 53, 54, 54, 54, 55, 54, 56, 54, 57, 55, 48, 55, 49, 55, 50, 55, 51, 55, 52, 55, 53, 55, 54, 55, 55, 55, 56, 55, 57, 56, 48, 56, 49, 56, 50, 56, 51, 56, 52, 56, 53, 56, 54, 56, 55, 56, 56, 56, 57, 57, 48, 57, 49, 57, 50, 57, 51, 57, 52, 57, 53, 57, 54, 57, 55, 57, 56, 57, 57]⟩ : ByteArray).size) : (((⟨#[48, 48, 48, 49, 48, 50, 48, 51, 48, 52, 48, 53, 48, 54, 48, 55, 48, 56, 48, 57, 49, 48, 49, 49, 49, 50, 49, 51, 49, 52, 49, 53, 49, 54, 49, 55, 49, 56, 49, 57, 50, 48, 50, 49, 50, 50, 50, 51, 50, 52, 50, 53, 50, 54, 50, 55, 50, 56, 50, 57, 51, 48, 51, 49, 51, 50, 51, 51, 51, 52, 51, 53, 51, 54, 51, 55, 51, 56, 51, 57, 52, 48, 52, 49, 52, 50, 52, 51, 52, 52, 52, 53, 52, 54, 52, 55, 52, 56, 52, 57, 53, 48, 53, 49, 53, 50, 53, 51, 53, 52, 53, 53, 53, 54, 53, 55, 53, 56, 53, 57, 54, 48, 54, 49, 54, 50, 54, 51, 54, 52, 54, 53, 54, 54, 54, 55, 54, 56, 54, 57, 55, 48, 55, 49, 55, 50, 55, 51, 55, 52, 55, 53, 55, 54, 55, 55, 55, 56, 55, 57, 56, 48, 56, 49, 56, 50, 56, 51, 56, 52, 56, 53, 56, 54, 56, 55, 56, 56, 56, 57, 57, 48, 57, 49, 57, 50, 57, 51, 57, 52, 57, 53, 57, 54, 57, 55, 57, 56, 57, 57]⟩ : ByteArray)[i.toNat]'h).toNat : Int) = sm i := by
  have h2 : i.toNat < smalls.size := h
  rw [sm, dif_pos h2]; rfl
theorem Blk.st2 {w : World} {g t m : Nat} {x : Int} {ds : List Int} (h : Blk w g t (u8s ds)) : Blk ((w.setCell ⟨g, m - 1, none⟩ (.int .u8 (sm (x + 1)))).setCell ⟨g, m - 2, none⟩ (.int .u8 (sm x))) g t (u8s (Pr.st2 m x ds)) := (h.st _ _).st _ _
theorem KB.st2 {w0 w : World} {g i j : Nat} {u v : Value} (h : KB w0 w g) : KB w0 (((w.setCell ⟨g, i, none⟩ u).setCell ⟨g, j, none⟩ v).drew) g := ((h.set_ _ _).set_ _ _).drewN 1

-- WALKS
set_option maxHeartbeats 4000000 in
set_option maxRecDepth 100000 in
theorem base10_any (n : Nat) (hn : n ≤ 20) (u : Int) (hu : 0 ≤ u) (hu2 : u ≤ 18446744073709551615) (g c : Nat) (hc : n ≤ c) (w : World) (ds : List Int) (hd : 20 ≤ ds.length) (hB : Blk w g 141 (u8s ds)) :
    Calls Tryz.prog 138 #[.slice (some ⟨g, 0, none⟩) n c, .int .u64 u] w fun e w' => e = .returned (.tuple #[]) ∧ Blk w' g 141 (u8s (b10 4 n u ds)) ∧ KB w w' g := by
  obtain ⟨R, hR⟩ : ∃ R, R = b10 4 n u ds := ⟨_, rfl⟩
  rw [← hR]
  have HR := Aside0.mk hR
  have HB0 := Aside0.mk hB
  clear hR hB
  go_enter Tryz.func138, Tryz.ntmps138
  go_wp2
  go_loopw [1, 4] (fun v1 v4 w' => ∃ (k m : Nat) (x : Int) (cs : List Int), v1 = .int .u64 x ∧ v4 = .int .i64 m ∧ m ≤ n ∧ m < 8 * k ∧ 0 ≤ x ∧ x ≤ 18446744073709551615 ∧ Aside0 (20 ≤ cs.length) ∧ Aside0 (b10 k m x cs = R) ∧ Aside0 (Blk w' g 141 (u8s cs)) ∧ Aside0 (KB w w' g)) (fun _ v4 _ => (intOf v4).toNat)
  case atStart => exact ⟨4, n, u, ds, rfl, rfl, Nat.le_refl _, by omega, hu, hu2, ⟨hd⟩, ⟨HR.out.symm⟩, HB0, ⟨KB.refl _ _⟩⟩
  case round =>
    obtain ⟨k, m, x, cs, rfl, rfl, hm, hk, hx, hx2, HL, HE, HB, HK⟩ := hrel
    clear HB0 HR hu hu2 hd
    obtain ⟨k, rfl⟩ : ∃ j, k = j + 1 := ⟨k - 1, by omega⟩
    by_cases h8 : 8 ≤ m
    · have HE1 : Aside0 (b10 k (m - 8) (x / 100000000) (r8 m x cs) = R) := ⟨by rw [← HE.out, b10, if_pos h8]⟩
      clear HE
      have hq : 0 ≤ x / 100000000 ∧ x / 100000000 ≤ 18446744073709551615 := by omega
      have HQ := Aside0.mk hq
      clear hq
      go_wp2
      obtain ⟨d1, c1⟩ := HB.out.at_ (m - 1) (by have := HL.out; (try simp only [st2_len]); omega)
      obtain ⟨d2, c2⟩ := HB.out.at_ (m - 2) (by have := HL.out; (try simp only [st2_len]); omega)
      have f1 := HB.out.frozen (m - 1)
      have f2 := HB.out.frozen (m - 2)
      have b1 : (0 : Int) ≤ (m : Int) - 1 := by omega
      have b2 : (0 : Int) ≤ (m : Int) - 2 := by omega
      have b3 : (m : Int) - 1 < (n : Int) := by omega
      have b4 : (m : Int) - 2 < (n : Int) := by omega
      have w1 : IntKind.i64.wrap ((m : Int) - 1) = (m : Int) - 1 := IntWalk.i64_in _ (by omega)
      have w2 : IntKind.i64.wrap ((m : Int) - 2) = (m : Int) - 2 := IntWalk.i64_in _ (by omega)
      have e1 : ((m : Int) - 1).toNat = m - 1 := by omega
      have e2 : ((m : Int) - 2).toNat = m - 2 := by omega
      obtain ⟨xq, hxq⟩ : ∃ xq_, xq_ = x % 100 * 2 := ⟨_, rfl⟩
      have r0 : 0 ≤ xq := by omega
      have r1 : xq < 200 := by omega
      have r2 : 0 ≤ xq + 1 := by omega
      have r3 : xq + 1 < 200 := by omega
      have r4 : IntKind.u32.wrap (xq + 1) = xq + 1 := IntWalk.u32_in _ (by omega)
      rw [← hxq]
      replace hxq := Aside0.mk hxq
      go_region
      go_wp2
      rw [sm_eq xq (show xq.toNat < 200 by omega), sm_eq (xq + 1) (show (xq + 1).toNat < 200 by omega), hxq.out]
      obtain ⟨wr0, hwn⟩ : ∃ wn, wn = ((wr.setCell ⟨g, m - 1, none⟩ (.int .u8 (sm (x % 100 * 2 + 1)))).setCell ⟨g, m - 2, none⟩ (.int .u8 (sm (x % 100 * 2)))).drew := ⟨_, rfl⟩
      rw [← hwn]
      have HB2 : Aside0 (Blk wr0 g 141 (u8s (st2 (m) (x % 100 * 2) cs))) := ⟨by rw [hwn]; exact Blk.drewN (HB.out.st2 (m := m) (x := x % 100 * 2)) 1⟩
      have HK2 : Aside0 (KB w wr0 g) := ⟨by rw [hwn]; exact KB.st2 (i := m - 1) (j := m - 2) (u := .int .u8 (sm (x % 100 * 2 + 1))) (v := .int .u8 (sm (x % 100 * 2))) HK.out⟩
      clear hwn c1 c2 f1 f2 b3 b4 r0 r1 r2 r3 r4 hxq HB HK b1 b2 w1 w2 e1 e2
      clear xq d1 d2 
      obtain ⟨d1, c1⟩ := HB2.out.at_ (m - 3) (by have := HL.out; (try simp only [st2_len]); omega)
      obtain ⟨d2, c2⟩ := HB2.out.at_ (m - 4) (by have := HL.out; (try simp only [st2_len]); omega)
      have f1 := HB2.out.frozen (m - 3)
      have f2 := HB2.out.frozen (m - 4)
      have b1 : (0 : Int) ≤ (m : Int) - 3 := by omega
      have b2 : (0 : Int) ≤ (m : Int) - 4 := by omega
      have b3 : (m : Int) - 3 < (n : Int) := by omega
      have b4 : (m : Int) - 4 < (n : Int) := by omega
      have w1 : IntKind.i64.wrap ((m : Int) - 3) = (m : Int) - 3 := IntWalk.i64_in _ (by omega)
      have w2 : IntKind.i64.wrap ((m : Int) - 4) = (m : Int) - 4 := IntWalk.i64_in _ (by omega)
      have e1 : ((m : Int) - 3).toNat = m - 3 := by omega
      have e2 : ((m : Int) - 4).toNat = m - 4 := by omega
      obtain ⟨xq, hxq⟩ : ∃ xq_, xq_ = x % 10000 / 100 * 2 := ⟨_, rfl⟩
      have r0 : 0 ≤ xq := by omega
      have r1 : xq < 200 := by omega
      have r2 : 0 ≤ xq + 1 := by omega
      have r3 : xq + 1 < 200 := by omega
      have r4 : IntKind.u32.wrap (xq + 1) = xq + 1 := IntWalk.u32_in _ (by omega)
      rw [← hxq]
      replace hxq := Aside0.mk hxq
      go_region
      go_wp2
      rw [sm_eq xq (show xq.toNat < 200 by omega), sm_eq (xq + 1) (show (xq + 1).toNat < 200 by omega), hxq.out]
      obtain ⟨wr1, hwn⟩ : ∃ wn, wn = ((wr0.setCell ⟨g, m - 3, none⟩ (.int .u8 (sm (x % 10000 / 100 * 2 + 1)))).setCell ⟨g, m - 4, none⟩ (.int .u8 (sm (x % 10000 / 100 * 2)))).drew := ⟨_, rfl⟩
      rw [← hwn]
      have HB22 : Aside0 (Blk wr1 g 141 (u8s (st2 (m - 2) (x % 10000 / 100 * 2) (st2 (m) (x % 100 * 2) cs)))) := ⟨by rw [hwn]; exact Blk.drewN (HB2.out.st2 (m := m - 2) (x := x % 10000 / 100 * 2)) 1⟩
      have HK22 : Aside0 (KB w wr1 g) := ⟨by rw [hwn]; exact KB.st2 (i := m - 3) (j := m - 4) (u := .int .u8 (sm (x % 10000 / 100 * 2 + 1))) (v := .int .u8 (sm (x % 10000 / 100 * 2))) HK2.out⟩
      clear hwn c1 c2 f1 f2 b3 b4 r0 r1 r2 r3 r4 hxq HB2 HK2 b1 b2 w1 w2 e1 e2
      clear xq d1 d2 
      obtain ⟨d1, c1⟩ := HB22.out.at_ (m - 5) (by have := HL.out; (try simp only [st2_len]); omega)
      obtain ⟨d2, c2⟩ := HB22.out.at_ (m - 6) (by have := HL.out; (try simp only [st2_len]); omega)
      have f1 := HB22.out.frozen (m - 5)
      have f2 := HB22.out.frozen (m - 6)
      have b1 : (0 : Int) ≤ (m : Int) - 5 := by omega
      have b2 : (0 : Int) ≤ (m : Int) - 6 := by omega
      have b3 : (m : Int) - 5 < (n : Int) := by omega
      have b4 : (m : Int) - 6 < (n : Int) := by omega
      have w1 : IntKind.i64.wrap ((m : Int) - 5) = (m : Int) - 5 := IntWalk.i64_in _ (by omega)
      have w2 : IntKind.i64.wrap ((m : Int) - 6) = (m : Int) - 6 := IntWalk.i64_in _ (by omega)
      have e1 : ((m : Int) - 5).toNat = m - 5 := by omega
      have e2 : ((m : Int) - 6).toNat = m - 6 := by omega
      obtain ⟨xq, hxq⟩ : ∃ xq_, xq_ = x % 100000000 / 10000 % 100 * 2 := ⟨_, rfl⟩
      have r0 : 0 ≤ xq := by omega
      have r1 : xq < 200 := by omega
      have r2 : 0 ≤ xq + 1 := by omega
      have r3 : xq + 1 < 200 := by omega
      have r4 : IntKind.u32.wrap (xq + 1) = xq + 1 := IntWalk.u32_in _ (by omega)
      rw [← hxq]
      replace hxq := Aside0.mk hxq
      go_region
      go_wp2
      rw [sm_eq xq (show xq.toNat < 200 by omega), sm_eq (xq + 1) (show (xq + 1).toNat < 200 by omega), hxq.out]
      obtain ⟨wr2, hwn⟩ : ∃ wn, wn = ((wr1.setCell ⟨g, m - 5, none⟩ (.int .u8 (sm (x % 100000000 / 10000 % 100 * 2 + 1)))).setCell ⟨g, m - 6, none⟩ (.int .u8 (sm (x % 100000000 / 10000 % 100 * 2)))).drew := ⟨_, rfl⟩
      rw [← hwn]
      have HB222 : Aside0 (Blk wr2 g 141 (u8s (st2 (m - 4) (x % 100000000 / 10000 % 100 * 2) (st2 (m - 2) (x % 10000 / 100 * 2) (st2 (m) (x % 100 * 2) cs))))) := ⟨by rw [hwn]; exact Blk.drewN (HB22.out.st2 (m := m - 4) (x := x % 100000000 / 10000 % 100 * 2)) 1⟩
      have HK222 : Aside0 (KB w wr2 g) := ⟨by rw [hwn]; exact KB.st2 (i := m - 5) (j := m - 6) (u := .int .u8 (sm (x % 100000000 / 10000 % 100 * 2 + 1))) (v := .int .u8 (sm (x % 100000000 / 10000 % 100 * 2))) HK22.out⟩
      clear hwn c1 c2 f1 f2 b3 b4 r0 r1 r2 r3 r4 hxq HB22 HK22 b1 b2 w1 w2 e1 e2
      clear xq d1 d2 
      obtain ⟨d1, c1⟩ := HB222.out.at_ (m - 7) (by have := HL.out; (try simp only [st2_len]); omega)
      obtain ⟨d2, c2⟩ := HB222.out.at_ (m - 8) (by have := HL.out; (try simp only [st2_len]); omega)
      have f1 := HB222.out.frozen (m - 7)
      have f2 := HB222.out.frozen (m - 8)
      have b1 : (0 : Int) ≤ (m : Int) - 7 := by omega
      have b2 : (0 : Int) ≤ (m : Int) - 8 := by omega
      have b3 : (m : Int) - 7 < (n : Int) := by omega
      have b4 : (m : Int) - 8 < (n : Int) := by omega
      have w1 : IntKind.i64.wrap ((m : Int) - 7) = (m : Int) - 7 := IntWalk.i64_in _ (by omega)
      have w2 : IntKind.i64.wrap ((m : Int) - 8) = (m : Int) - 8 := IntWalk.i64_in _ (by omega)
      have e1 : ((m : Int) - 7).toNat = m - 7 := by omega
      have e2 : ((m : Int) - 8).toNat = m - 8 := by omega
      obtain ⟨xq, hxq⟩ : ∃ xq_, xq_ = x % 100000000 / 10000 / 100 * 2 := ⟨_, rfl⟩
      have r0 : 0 ≤ xq := by omega
      have r1 : xq < 200 := by omega
      have r2 : 0 ≤ xq + 1 := by omega
      have r3 : xq + 1 < 200 := by omega
      have r4 : IntKind.u32.wrap (xq + 1) = xq + 1 := IntWalk.u32_in _ (by omega)
      rw [← hxq]
      replace hxq := Aside0.mk hxq
      go_region
      go_wp2
      rw [sm_eq xq (show xq.toNat < 200 by omega), sm_eq (xq + 1) (show (xq + 1).toNat < 200 by omega), hxq.out]
      obtain ⟨wr3, hwn⟩ : ∃ wn, wn = ((wr2.setCell ⟨g, m - 7, none⟩ (.int .u8 (sm (x % 100000000 / 10000 / 100 * 2 + 1)))).setCell ⟨g, m - 8, none⟩ (.int .u8 (sm (x % 100000000 / 10000 / 100 * 2)))).drew := ⟨_, rfl⟩
      rw [← hwn]
      have HB2222 : Aside0 (Blk wr3 g 141 (u8s (st2 (m - 6) (x % 100000000 / 10000 / 100 * 2) (st2 (m - 4) (x % 100000000 / 10000 % 100 * 2) (st2 (m - 2) (x % 10000 / 100 * 2) (st2 (m) (x % 100 * 2) cs)))))) := ⟨by rw [hwn]; exact Blk.drewN (HB222.out.st2 (m := m - 6) (x := x % 100000000 / 10000 / 100 * 2)) 1⟩
      have HK2222 : Aside0 (KB w wr3 g) := ⟨by rw [hwn]; exact KB.st2 (i := m - 7) (j := m - 8) (u := .int .u8 (sm (x % 100000000 / 10000 / 100 * 2 + 1))) (v := .int .u8 (sm (x % 100000000 / 10000 / 100 * 2))) HK222.out⟩
      clear hwn c1 c2 f1 f2 b3 b4 r0 r1 r2 r3 r4 hxq HB222 HK222 b1 b2 w1 w2 e1 e2
      clear xq d1 d2 
      go_outline
      go_roundw
      case rel => exact ⟨k, m - 8, x / 100000000, r8 m x cs, rfl, by go_num, by omega, by omega, by omega, by omega, ⟨by rw [r8_len]; exact HL.out⟩, HE1, ⟨HB2222.out⟩, ⟨HK2222.out⟩⟩
      case measure => simp [intOf]; omega
    · have HE1 : Aside0 (t4 m (x % 4294967296) cs = R) := ⟨by rw [← HE.out, b10, if_neg h8]⟩
      clear HE
      have hcase : m = 0 ∨ m = 1 ∨ m = 2 ∨ m = 3 ∨ m = 4 ∨ m = 5 ∨ m = 6 ∨ m = 7 := by omega
      obtain ⟨y, hy⟩ : ∃ y, y = x % 4294967296 := ⟨_, rfl⟩
      have y0 : 0 ≤ y := by omega
      have y1 : y ≤ 4294967295 := by omega
      rw [← hy] at HE1
      have HY := Aside0.mk hy
      clear hy h8 hk
      rcases hcase with rfl | rfl | rfl | rfl | rfl | rfl | rfl | rfl
      · go_wp2
        go_end0
        exact ⟨rfl, by rw [← HE1.out]; exact HB.out, HK.out⟩
      · obtain ⟨d0, c0⟩ := HB.out.at_ 0 (by have := HL.out; (try simp only [st2_len]); omega)
        have f0 := HB.out.frozen 0
        have b0 : (0 : Int) < (n : Int) := by omega
        go_wp2
        go_end0
        refine ⟨rfl, ?_, ?_⟩
        · have e_ : (48 + x) % 256 = (48 + y) % 256 := by have := HY.out; omega
          (try rw [e_]); rw [← HE1.out]; have := HB.out.st 0 ((48 + y) % 256); first | exact this | (simp only [← HY.out] at *; exact this) | (rw [HY.out] at this; simpa using this)
        · exact (HK.out.set_ 0 _)
      · go_wp2
        (try rw [← HY.out])
        obtain ⟨d1, c1⟩ := HB.out.at_ (1) (by have := HL.out; (try simp only [st2_len]); omega)
        obtain ⟨d2, c2⟩ := HB.out.at_ (0) (by have := HL.out; (try simp only [st2_len]); omega)
        have f1 := HB.out.frozen (1)
        have f2 := HB.out.frozen (0)
        have b3 : (1 : Int) < (n : Int) := by omega
        have b4 : (0 : Int) < (n : Int) := by omega
        obtain ⟨xq, hxq⟩ : ∃ xq_, xq_ = y % 100 * 2 := ⟨_, rfl⟩
        have r0 : 0 ≤ xq := by omega
        have r1 : xq < 200 := by omega
        have r2 : 0 ≤ xq + 1 := by omega
        have r3 : xq + 1 < 200 := by omega
        have r4 : IntKind.u32.wrap (xq + 1) = xq + 1 := IntWalk.u32_in _ (by omega)
        rw [← hxq]
        replace hxq := Aside0.mk hxq
        go_region
        go_wp2
        rw [sm_eq xq (show xq.toNat < 200 by omega), sm_eq (xq + 1) (show (xq + 1).toNat < 200 by omega), hxq.out]
        obtain ⟨wr0, hwn⟩ : ∃ wn, wn = ((wr.setCell ⟨g, 1, none⟩ (.int .u8 (sm (y % 100 * 2 + 1)))).setCell ⟨g, 0, none⟩ (.int .u8 (sm (y % 100 * 2)))).drew := ⟨_, rfl⟩
        rw [← hwn]
        have HB2 : Aside0 (Blk wr0 g 141 (u8s (st2 (2) (y % 100 * 2) cs))) := ⟨by rw [hwn]; exact Blk.drewN (HB.out.st2 (m := 2) (x := y % 100 * 2)) 1⟩
        have HK2 : Aside0 (KB w wr0 g) := ⟨by rw [hwn]; exact KB.st2 (i := 1) (j := 0) (u := .int .u8 (sm (y % 100 * 2 + 1))) (v := .int .u8 (sm (y % 100 * 2))) HK.out⟩
        clear hwn c1 c2 f1 f2 b3 b4 r0 r1 r2 r3 r4 hxq HB HK
        clear xq d1 d2 
        go_end0
        exact ⟨rfl, by rw [← HE1.out]; exact HB2.out, HK2.out⟩
      · go_wp2
        obtain ⟨d0, c0⟩ := HB.out.at_ 0 (by have := HL.out; (try simp only [st2_len]); omega)
        have f0 := HB.out.frozen 0
        have b0 : (0 : Int) < (n : Int) := by omega
        (try rw [← HY.out])
        obtain ⟨d1, c1⟩ := HB.out.at_ (2) (by have := HL.out; (try simp only [st2_len]); omega)
        obtain ⟨d2, c2⟩ := HB.out.at_ (1) (by have := HL.out; (try simp only [st2_len]); omega)
        have f1 := HB.out.frozen (2)
        have f2 := HB.out.frozen (1)
        have b3 : (2 : Int) < (n : Int) := by omega
        have b4 : (1 : Int) < (n : Int) := by omega
        obtain ⟨xq, hxq⟩ : ∃ xq_, xq_ = y % 100 * 2 := ⟨_, rfl⟩
        have r0 : 0 ≤ xq := by omega
        have r1 : xq < 200 := by omega
        have r2 : 0 ≤ xq + 1 := by omega
        have r3 : xq + 1 < 200 := by omega
        have r4 : IntKind.u32.wrap (xq + 1) = xq + 1 := IntWalk.u32_in _ (by omega)
        rw [← hxq]
        replace hxq := Aside0.mk hxq
        go_region
        go_wp2
        rw [sm_eq xq (show xq.toNat < 200 by omega), sm_eq (xq + 1) (show (xq + 1).toNat < 200 by omega), hxq.out]
        go_end0
        exact ⟨rfl, by rw [← HE1.out]; exact Blk.drewN ((HB.out.st2 (m := 3) (x := y % 100 * 2)).st 0 _) 1, (((HK.out.set_ 2 _).set_ 1 _).set_ 0 _).drewN 1⟩
      · go_wp2
        (try rw [← HY.out])
        obtain ⟨d1, c1⟩ := HB.out.at_ (3) (by have := HL.out; (try simp only [st2_len]); omega)
        obtain ⟨d2, c2⟩ := HB.out.at_ (2) (by have := HL.out; (try simp only [st2_len]); omega)
        have f1 := HB.out.frozen (3)
        have f2 := HB.out.frozen (2)
        have b3 : (3 : Int) < (n : Int) := by omega
        have b4 : (2 : Int) < (n : Int) := by omega
        obtain ⟨xq, hxq⟩ : ∃ xq_, xq_ = y % 100 * 2 := ⟨_, rfl⟩
        have r0 : 0 ≤ xq := by omega
        have r1 : xq < 200 := by omega
        have r2 : 0 ≤ xq + 1 := by omega
        have r3 : xq + 1 < 200 := by omega
        have r4 : IntKind.u32.wrap (xq + 1) = xq + 1 := IntWalk.u32_in _ (by omega)
        rw [← hxq]
        replace hxq := Aside0.mk hxq
        go_region
        go_wp2
        rw [sm_eq xq (show xq.toNat < 200 by omega), sm_eq (xq + 1) (show (xq + 1).toNat < 200 by omega), hxq.out]
        obtain ⟨wr0, hwn⟩ : ∃ wn, wn = ((wr.setCell ⟨g, 3, none⟩ (.int .u8 (sm (y % 100 * 2 + 1)))).setCell ⟨g, 2, none⟩ (.int .u8 (sm (y % 100 * 2)))).drew := ⟨_, rfl⟩
        rw [← hwn]
        have HB2 : Aside0 (Blk wr0 g 141 (u8s (st2 (4) (y % 100 * 2) cs))) := ⟨by rw [hwn]; exact Blk.drewN (HB.out.st2 (m := 4) (x := y % 100 * 2)) 1⟩
        have HK2 : Aside0 (KB w wr0 g) := ⟨by rw [hwn]; exact KB.st2 (i := 3) (j := 2) (u := .int .u8 (sm (y % 100 * 2 + 1))) (v := .int .u8 (sm (y % 100 * 2))) HK.out⟩
        clear hwn c1 c2 f1 f2 b3 b4 r0 r1 r2 r3 r4 hxq HB HK
        clear xq d1 d2 
        obtain ⟨d1, c1⟩ := HB2.out.at_ (1) (by have := HL.out; (try simp only [st2_len]); omega)
        obtain ⟨d2, c2⟩ := HB2.out.at_ (0) (by have := HL.out; (try simp only [st2_len]); omega)
        have f1 := HB2.out.frozen (1)
        have f2 := HB2.out.frozen (0)
        have b3 : (1 : Int) < (n : Int) := by omega
        have b4 : (0 : Int) < (n : Int) := by omega
        obtain ⟨xq, hxq⟩ : ∃ xq_, xq_ = y % 10000 / 100 * 2 := ⟨_, rfl⟩
        have r0 : 0 ≤ xq := by omega
        have r1 : xq < 200 := by omega
        have r2 : 0 ≤ xq + 1 := by omega
        have r3 : xq + 1 < 200 := by omega
        have r4 : IntKind.u32.wrap (xq + 1) = xq + 1 := IntWalk.u32_in _ (by omega)
        rw [← hxq]
        replace hxq := Aside0.mk hxq
        go_region
        go_wp2
        rw [sm_eq xq (show xq.toNat < 200 by omega), sm_eq (xq + 1) (show (xq + 1).toNat < 200 by omega), hxq.out]
        obtain ⟨wr1, hwn⟩ : ∃ wn, wn = ((wr0.setCell ⟨g, 1, none⟩ (.int .u8 (sm (y % 10000 / 100 * 2 + 1)))).setCell ⟨g, 0, none⟩ (.int .u8 (sm (y % 10000 / 100 * 2)))).drew := ⟨_, rfl⟩
        rw [← hwn]
        have HB22 : Aside0 (Blk wr1 g 141 (u8s (st2 (2) (y % 10000 / 100 * 2) (st2 (4) (y % 100 * 2) cs)))) := ⟨by rw [hwn]; exact Blk.drewN (HB2.out.st2 (m := 2) (x := y % 10000 / 100 * 2)) 1⟩
        have HK22 : Aside0 (KB w wr1 g) := ⟨by rw [hwn]; exact KB.st2 (i := 1) (j := 0) (u := .int .u8 (sm (y % 10000 / 100 * 2 + 1))) (v := .int .u8 (sm (y % 10000 / 100 * 2))) HK2.out⟩
        clear hwn c1 c2 f1 f2 b3 b4 r0 r1 r2 r3 r4 hxq HB2 HK2
        clear xq d1 d2 
        go_end0
        exact ⟨rfl, by rw [← HE1.out]; exact HB22.out, HK22.out⟩
      · go_wp2
        (try rw [← HY.out])
        obtain ⟨d1, c1⟩ := HB.out.at_ (4) (by have := HL.out; (try simp only [st2_len]); omega)
        obtain ⟨d2, c2⟩ := HB.out.at_ (3) (by have := HL.out; (try simp only [st2_len]); omega)
        have f1 := HB.out.frozen (4)
        have f2 := HB.out.frozen (3)
        have b3 : (4 : Int) < (n : Int) := by omega
        have b4 : (3 : Int) < (n : Int) := by omega
        obtain ⟨xq, hxq⟩ : ∃ xq_, xq_ = y % 100 * 2 := ⟨_, rfl⟩
        have r0 : 0 ≤ xq := by omega
        have r1 : xq < 200 := by omega
        have r2 : 0 ≤ xq + 1 := by omega
        have r3 : xq + 1 < 200 := by omega
        have r4 : IntKind.u32.wrap (xq + 1) = xq + 1 := IntWalk.u32_in _ (by omega)
        rw [← hxq]
        replace hxq := Aside0.mk hxq
        go_region
        go_wp2
        rw [sm_eq xq (show xq.toNat < 200 by omega), sm_eq (xq + 1) (show (xq + 1).toNat < 200 by omega), hxq.out]
        obtain ⟨wr0, hwn⟩ : ∃ wn, wn = ((wr.setCell ⟨g, 4, none⟩ (.int .u8 (sm (y % 100 * 2 + 1)))).setCell ⟨g, 3, none⟩ (.int .u8 (sm (y % 100 * 2)))).drew := ⟨_, rfl⟩
        rw [← hwn]
        have HB2 : Aside0 (Blk wr0 g 141 (u8s (st2 (5) (y % 100 * 2) cs))) := ⟨by rw [hwn]; exact Blk.drewN (HB.out.st2 (m := 5) (x := y % 100 * 2)) 1⟩
        have HK2 : Aside0 (KB w wr0 g) := ⟨by rw [hwn]; exact KB.st2 (i := 4) (j := 3) (u := .int .u8 (sm (y % 100 * 2 + 1))) (v := .int .u8 (sm (y % 100 * 2))) HK.out⟩
        clear hwn c1 c2 f1 f2 b3 b4 r0 r1 r2 r3 r4 hxq HB HK
        clear xq d1 d2 
        obtain ⟨d0, c0⟩ := HB2.out.at_ 0 (by have := HL.out; (try simp only [st2_len]); omega)
        have f0 := HB2.out.frozen 0
        have b0 : (0 : Int) < (n : Int) := by omega
        obtain ⟨d1, c1⟩ := HB2.out.at_ (2) (by have := HL.out; (try simp only [st2_len]); omega)
        obtain ⟨d2, c2⟩ := HB2.out.at_ (1) (by have := HL.out; (try simp only [st2_len]); omega)
        have f1 := HB2.out.frozen (2)
        have f2 := HB2.out.frozen (1)
        have b3 : (2 : Int) < (n : Int) := by omega
        have b4 : (1 : Int) < (n : Int) := by omega
        obtain ⟨xq, hxq⟩ : ∃ xq_, xq_ = y % 10000 / 100 * 2 := ⟨_, rfl⟩
        have r0 : 0 ≤ xq := by omega
        have r1 : xq < 200 := by omega
        have r2 : 0 ≤ xq + 1 := by omega
        have r3 : xq + 1 < 200 := by omega
        have r4 : IntKind.u32.wrap (xq + 1) = xq + 1 := IntWalk.u32_in _ (by omega)
        rw [← hxq]
        replace hxq := Aside0.mk hxq
        go_region
        go_wp2
        rw [sm_eq xq (show xq.toNat < 200 by omega), sm_eq (xq + 1) (show (xq + 1).toNat < 200 by omega), hxq.out]
        go_end0
        exact ⟨rfl, by rw [← HE1.out]; exact Blk.drewN ((HB2.out.st2 (m := 3) (x := y % 10000 / 100 * 2)).st 0 _) 1, (((HK2.out.set_ 2 _).set_ 1 _).set_ 0 _).drewN 1⟩
      · go_wp2
        (try rw [← HY.out])
        obtain ⟨d1, c1⟩ := HB.out.at_ (5) (by have := HL.out; (try simp only [st2_len]); omega)
        obtain ⟨d2, c2⟩ := HB.out.at_ (4) (by have := HL.out; (try simp only [st2_len]); omega)
        have f1 := HB.out.frozen (5)
        have f2 := HB.out.frozen (4)
        have b3 : (5 : Int) < (n : Int) := by omega
        have b4 : (4 : Int) < (n : Int) := by omega
        obtain ⟨xq, hxq⟩ : ∃ xq_, xq_ = y % 100 * 2 := ⟨_, rfl⟩
        have r0 : 0 ≤ xq := by omega
        have r1 : xq < 200 := by omega
        have r2 : 0 ≤ xq + 1 := by omega
        have r3 : xq + 1 < 200 := by omega
        have r4 : IntKind.u32.wrap (xq + 1) = xq + 1 := IntWalk.u32_in _ (by omega)
        rw [← hxq]
        replace hxq := Aside0.mk hxq
        go_region
        go_wp2
        rw [sm_eq xq (show xq.toNat < 200 by omega), sm_eq (xq + 1) (show (xq + 1).toNat < 200 by omega), hxq.out]
        obtain ⟨wr0, hwn⟩ : ∃ wn, wn = ((wr.setCell ⟨g, 5, none⟩ (.int .u8 (sm (y % 100 * 2 + 1)))).setCell ⟨g, 4, none⟩ (.int .u8 (sm (y % 100 * 2)))).drew := ⟨_, rfl⟩
        rw [← hwn]
        have HB2 : Aside0 (Blk wr0 g 141 (u8s (st2 (6) (y % 100 * 2) cs))) := ⟨by rw [hwn]; exact Blk.drewN (HB.out.st2 (m := 6) (x := y % 100 * 2)) 1⟩
        have HK2 : Aside0 (KB w wr0 g) := ⟨by rw [hwn]; exact KB.st2 (i := 5) (j := 4) (u := .int .u8 (sm (y % 100 * 2 + 1))) (v := .int .u8 (sm (y % 100 * 2))) HK.out⟩
        clear hwn c1 c2 f1 f2 b3 b4 r0 r1 r2 r3 r4 hxq HB HK
        clear xq d1 d2 
        obtain ⟨d1, c1⟩ := HB2.out.at_ (3) (by have := HL.out; (try simp only [st2_len]); omega)
        obtain ⟨d2, c2⟩ := HB2.out.at_ (2) (by have := HL.out; (try simp only [st2_len]); omega)
        have f1 := HB2.out.frozen (3)
        have f2 := HB2.out.frozen (2)
        have b3 : (3 : Int) < (n : Int) := by omega
        have b4 : (2 : Int) < (n : Int) := by omega
        obtain ⟨xq, hxq⟩ : ∃ xq_, xq_ = y % 10000 / 100 * 2 := ⟨_, rfl⟩
        have r0 : 0 ≤ xq := by omega
        have r1 : xq < 200 := by omega
        have r2 : 0 ≤ xq + 1 := by omega
        have r3 : xq + 1 < 200 := by omega
        have r4 : IntKind.u32.wrap (xq + 1) = xq + 1 := IntWalk.u32_in _ (by omega)
        rw [← hxq]
        replace hxq := Aside0.mk hxq
        go_region
        go_wp2
        rw [sm_eq xq (show xq.toNat < 200 by omega), sm_eq (xq + 1) (show (xq + 1).toNat < 200 by omega), hxq.out]
        obtain ⟨wr1, hwn⟩ : ∃ wn, wn = ((wr0.setCell ⟨g, 3, none⟩ (.int .u8 (sm (y % 10000 / 100 * 2 + 1)))).setCell ⟨g, 2, none⟩ (.int .u8 (sm (y % 10000 / 100 * 2)))).drew := ⟨_, rfl⟩
        rw [← hwn]
        have HB22 : Aside0 (Blk wr1 g 141 (u8s (st2 (4) (y % 10000 / 100 * 2) (st2 (6) (y % 100 * 2) cs)))) := ⟨by rw [hwn]; exact Blk.drewN (HB2.out.st2 (m := 4) (x := y % 10000 / 100 * 2)) 1⟩
        have HK22 : Aside0 (KB w wr1 g) := ⟨by rw [hwn]; exact KB.st2 (i := 3) (j := 2) (u := .int .u8 (sm (y % 10000 / 100 * 2 + 1))) (v := .int .u8 (sm (y % 10000 / 100 * 2))) HK2.out⟩
        clear hwn c1 c2 f1 f2 b3 b4 r0 r1 r2 r3 r4 hxq HB2 HK2
        clear xq d1 d2 
        obtain ⟨d1, c1⟩ := HB22.out.at_ (1) (by have := HL.out; (try simp only [st2_len]); omega)
        obtain ⟨d2, c2⟩ := HB22.out.at_ (0) (by have := HL.out; (try simp only [st2_len]); omega)
        have f1 := HB22.out.frozen (1)
        have f2 := HB22.out.frozen (0)
        have b3 : (1 : Int) < (n : Int) := by omega
        have b4 : (0 : Int) < (n : Int) := by omega
        obtain ⟨xq, hxq⟩ : ∃ xq_, xq_ = y / 10000 % 100 * 2 := ⟨_, rfl⟩
        have r0 : 0 ≤ xq := by omega
        have r1 : xq < 200 := by omega
        have r2 : 0 ≤ xq + 1 := by omega
        have r3 : xq + 1 < 200 := by omega
        have r4 : IntKind.u32.wrap (xq + 1) = xq + 1 := IntWalk.u32_in _ (by omega)
        rw [← hxq]
        replace hxq := Aside0.mk hxq
        go_region
        go_wp2
        rw [sm_eq xq (show xq.toNat < 200 by omega), sm_eq (xq + 1) (show (xq + 1).toNat < 200 by omega), hxq.out]
        obtain ⟨wr2, hwn⟩ : ∃ wn, wn = ((wr1.setCell ⟨g, 1, none⟩ (.int .u8 (sm (y / 10000 % 100 * 2 + 1)))).setCell ⟨g, 0, none⟩ (.int .u8 (sm (y / 10000 % 100 * 2)))).drew := ⟨_, rfl⟩
        rw [← hwn]
        have HB222 : Aside0 (Blk wr2 g 141 (u8s (st2 (2) (y / 10000 % 100 * 2) (st2 (4) (y % 10000 / 100 * 2) (st2 (6) (y % 100 * 2) cs))))) := ⟨by rw [hwn]; exact Blk.drewN (HB22.out.st2 (m := 2) (x := y / 10000 % 100 * 2)) 1⟩
        have HK222 : Aside0 (KB w wr2 g) := ⟨by rw [hwn]; exact KB.st2 (i := 1) (j := 0) (u := .int .u8 (sm (y / 10000 % 100 * 2 + 1))) (v := .int .u8 (sm (y / 10000 % 100 * 2))) HK22.out⟩
        clear hwn c1 c2 f1 f2 b3 b4 r0 r1 r2 r3 r4 hxq HB22 HK22
        clear xq d1 d2 
        go_end0
        exact ⟨rfl, by rw [← HE1.out]; exact HB222.out, HK222.out⟩
      · go_wp2
        (try rw [← HY.out])
        obtain ⟨d1, c1⟩ := HB.out.at_ (6) (by have := HL.out; (try simp only [st2_len]); omega)
        obtain ⟨d2, c2⟩ := HB.out.at_ (5) (by have := HL.out; (try simp only [st2_len]); omega)
        have f1 := HB.out.frozen (6)
        have f2 := HB.out.frozen (5)
        have b3 : (6 : Int) < (n : Int) := by omega
        have b4 : (5 : Int) < (n : Int) := by omega
        obtain ⟨xq, hxq⟩ : ∃ xq_, xq_ = y % 100 * 2 := ⟨_, rfl⟩
        have r0 : 0 ≤ xq := by omega
        have r1 : xq < 200 := by omega
        have r2 : 0 ≤ xq + 1 := by omega
        have r3 : xq + 1 < 200 := by omega
        have r4 : IntKind.u32.wrap (xq + 1) = xq + 1 := IntWalk.u32_in _ (by omega)
        rw [← hxq]
        replace hxq := Aside0.mk hxq
        go_region
        go_wp2
        rw [sm_eq xq (show xq.toNat < 200 by omega), sm_eq (xq + 1) (show (xq + 1).toNat < 200 by omega), hxq.out]
        obtain ⟨wr0, hwn⟩ : ∃ wn, wn = ((wr.setCell ⟨g, 6, none⟩ (.int .u8 (sm (y % 100 * 2 + 1)))).setCell ⟨g, 5, none⟩ (.int .u8 (sm (y % 100 * 2)))).drew := ⟨_, rfl⟩
        rw [← hwn]
        have HB2 : Aside0 (Blk wr0 g 141 (u8s (st2 (7) (y % 100 * 2) cs))) := ⟨by rw [hwn]; exact Blk.drewN (HB.out.st2 (m := 7) (x := y % 100 * 2)) 1⟩
        have HK2 : Aside0 (KB w wr0 g) := ⟨by rw [hwn]; exact KB.st2 (i := 6) (j := 5) (u := .int .u8 (sm (y % 100 * 2 + 1))) (v := .int .u8 (sm (y % 100 * 2))) HK.out⟩
        clear hwn c1 c2 f1 f2 b3 b4 r0 r1 r2 r3 r4 hxq HB HK
        clear xq d1 d2 
        obtain ⟨d1, c1⟩ := HB2.out.at_ (4) (by have := HL.out; (try simp only [st2_len]); omega)
        obtain ⟨d2, c2⟩ := HB2.out.at_ (3) (by have := HL.out; (try simp only [st2_len]); omega)
        have f1 := HB2.out.frozen (4)
        have f2 := HB2.out.frozen (3)
        have b3 : (4 : Int) < (n : Int) := by omega
        have b4 : (3 : Int) < (n : Int) := by omega
        obtain ⟨xq, hxq⟩ : ∃ xq_, xq_ = y % 10000 / 100 * 2 := ⟨_, rfl⟩
        have r0 : 0 ≤ xq := by omega
        have r1 : xq < 200 := by omega
        have r2 : 0 ≤ xq + 1 := by omega
        have r3 : xq + 1 < 200 := by omega
        have r4 : IntKind.u32.wrap (xq + 1) = xq + 1 := IntWalk.u32_in _ (by omega)
        rw [← hxq]
        replace hxq := Aside0.mk hxq
        go_region
        go_wp2
        rw [sm_eq xq (show xq.toNat < 200 by omega), sm_eq (xq + 1) (show (xq + 1).toNat < 200 by omega), hxq.out]
        obtain ⟨wr1, hwn⟩ : ∃ wn, wn = ((wr0.setCell ⟨g, 4, none⟩ (.int .u8 (sm (y % 10000 / 100 * 2 + 1)))).setCell ⟨g, 3, none⟩ (.int .u8 (sm (y % 10000 / 100 * 2)))).drew := ⟨_, rfl⟩
        rw [← hwn]
        have HB22 : Aside0 (Blk wr1 g 141 (u8s (st2 (5) (y % 10000 / 100 * 2) (st2 (7) (y % 100 * 2) cs)))) := ⟨by rw [hwn]; exact Blk.drewN (HB2.out.st2 (m := 5) (x := y % 10000 / 100 * 2)) 1⟩
        have HK22 : Aside0 (KB w wr1 g) := ⟨by rw [hwn]; exact KB.st2 (i := 4) (j := 3) (u := .int .u8 (sm (y % 10000 / 100 * 2 + 1))) (v := .int .u8 (sm (y % 10000 / 100 * 2))) HK2.out⟩
        clear hwn c1 c2 f1 f2 b3 b4 r0 r1 r2 r3 r4 hxq HB2 HK2
        clear xq d1 d2 
        obtain ⟨d0, c0⟩ := HB22.out.at_ 0 (by have := HL.out; (try simp only [st2_len]); omega)
        have f0 := HB22.out.frozen 0
        have b0 : (0 : Int) < (n : Int) := by omega
        obtain ⟨d1, c1⟩ := HB22.out.at_ (2) (by have := HL.out; (try simp only [st2_len]); omega)
        obtain ⟨d2, c2⟩ := HB22.out.at_ (1) (by have := HL.out; (try simp only [st2_len]); omega)
        have f1 := HB22.out.frozen (2)
        have f2 := HB22.out.frozen (1)
        have b3 : (2 : Int) < (n : Int) := by omega
        have b4 : (1 : Int) < (n : Int) := by omega
        obtain ⟨xq, hxq⟩ : ∃ xq_, xq_ = y / 10000 % 100 * 2 := ⟨_, rfl⟩
        have r0 : 0 ≤ xq := by omega
        have r1 : xq < 200 := by omega
        have r2 : 0 ≤ xq + 1 := by omega
        have r3 : xq + 1 < 200 := by omega
        have r4 : IntKind.u32.wrap (xq + 1) = xq + 1 := IntWalk.u32_in _ (by omega)
        rw [← hxq]
        replace hxq := Aside0.mk hxq
        go_region
        go_wp2
        rw [sm_eq xq (show xq.toNat < 200 by omega), sm_eq (xq + 1) (show (xq + 1).toNat < 200 by omega), hxq.out]
        go_end0
        exact ⟨rfl, by rw [← HE1.out]; exact Blk.drewN ((HB22.out.st2 (m := 3) (x := y / 10000 % 100 * 2)).st 0 _) 1, (((HK22.out.set_ 2 _).set_ 1 _).set_ 0 _).drewN 1⟩
end Go.Proofs.YtjleceekccehoaaGreatDoor.Pr
