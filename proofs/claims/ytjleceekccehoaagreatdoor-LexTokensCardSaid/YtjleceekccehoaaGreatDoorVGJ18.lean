/- Texts of this session, cut down to what one claim needs and joined: LexV0, LexV. -/
import Derived.Test.YtjleceekccehoaaGreatDoorProg
import Derived.WalkKit
import Derived.WalkMore
import Derived.BigQuiet
import Derived.Lib.ValidAsc
import Derived.Lib.EndianBits
import Derived.Laws.BitsAllLaws
import Derived.Outline
import Derived.Shelf.Unicode.DecodeSlow
import Derived.Deep.LoopGhost
import Derived.Deep.CutBlock
import Derived.Deep.DeepCutAuto
section
set_option linter.unusedVariables false
set_option linter.unusedSimpArgs false
namespace Go.Proofs.YtjleceekccehoaaGreatDoor.Pr
open Go.RowKit

/-- The bytes t stand in block g of w from o on. -/
def BsM (w : World) (g o : Nat) (t : ByteArray) : Prop := ∀ (j : Nat) (h : j < t.size), w.cell? ⟨g, o + j, none⟩ = some (.int .u8 ((t[j]'h).toNat : Nat))
theorem BsM.get {w : World} {g o : Nat} {t : ByteArray} (h : BsM w g o t) (j : Nat) (hj : j < t.size) : w.cell? ⟨g, o + j, none⟩ = some (.int .u8 ((t.get! j).toNat : Nat)) := by
 have := h j hj
 rw [show t.get! j = t[j]'hj from by simp [ByteArray.get!, ByteArray.getElem_eq_getElem_data, hj]]
 exact this
set_option maxHeartbeats 4000000 in
set_option maxRecDepth 100000 in
theorem u8word_any (t : ByteArray) (ht : 8 ≤ t.size) (g o c : Nat) (w : World) (hM : BsM w g o t) :
  Calls Tryz.prog 113 #[.slice (some ⟨g, o, none⟩) t.size c] w fun e w' => e = .returned (.int .u64 (Lib.leNat [t.get! 0, t.get! 1, t.get! 2, t.get! 3, t.get! 4, t.get! 5, t.get! 6, t.get! 7])) ∧ ∃ q, w' = w.drewN q := by
 have m0 := hM.get 0 (by omega)
 have m1 := hM.get 1 (by omega)
 have m2 := hM.get 2 (by omega)
 have m3 := hM.get 3 (by omega)
 have m4 := hM.get 4 (by omega)
 have m5 := hM.get 5 (by omega)
 have m6 := hM.get 6 (by omega)
 have m7 := hM.get 7 (by omega)
 have h0 := (t.get! 0).toNat_lt
 have h1 := (t.get! 1).toNat_lt
 have h2 := (t.get! 2).toNat_lt
 have h3 := (t.get! 3).toNat_lt
 have h4 := (t.get! 4).toNat_lt
 have h5 := (t.get! 5).toNat_lt
 have h6 := (t.get! 6).toNat_lt
 have h7 := (t.get! 7).toNat_lt
 obtain ⟨n, hn⟩ : ∃ n, t.size = n := ⟨_, rfl⟩
 rw [hn] at ht ⊢
 have hv : ((Lib.leNat [t.get! 0, t.get! 1, t.get! 2, t.get! 3, t.get! 4, t.get! 5, t.get! 6, t.get! 7] : Nat) : Int) = ((t.get! 0).toNat : Int) + ((t.get! 1).toNat : Int) * 256 + ((t.get! 2).toNat : Int) * 65536 + ((t.get! 3).toNat : Int) * 16777216 + ((t.get! 4).toNat : Int) * 4294967296 + ((t.get! 5).toNat : Int) * 1099511627776 + ((t.get! 6).toNat : Int) * 281474976710656 + ((t.get! 7).toNat : Int) * 72057594037927936 := by
  simp only [Lib.leNat]
  omega
 rw [hv]
 generalize (t.get! 0).toNat = x0 at *
 generalize (t.get! 1).toNat = x1 at *
 generalize (t.get! 2).toNat = x2 at *
 generalize (t.get! 3).toNat = x3 at *
 generalize (t.get! 4).toNat = x4 at *
 generalize (t.get! 5).toNat = x5 at *
 generalize (t.get! 6).toNat = x6 at *
 generalize (t.get! 7).toNat = x7 at *
 have q0 : (0 : Int) < (n : Int) := by omega
 have q1 : (1 : Int) < (n : Int) := by omega
 have q2 : (2 : Int) < (n : Int) := by omega
 have q3 : (3 : Int) < (n : Int) := by omega
 have q4 : (4 : Int) < (n : Int) := by omega
 have q5 : (5 : Int) < (n : Int) := by omega
 have q6 : (6 : Int) < (n : Int) := by omega
 have q7 : (7 : Int) < (n : Int) := by omega
 clear hM hv hn ht
 rw [Nat.add_zero] at m0
 go_enter Tryz.func113, Tryz.ntmps113
 go_wp2_with fail
 go_quiet (fail)
 go_wp2_with fail
 go_ret
 refine ⟨?_, _, rfl⟩
 show Ending.returned (Value.int IntKind.u64 _) = _
 congr 2
 simp (disch := omega) only [u64_or8, u64_or16, u64_or24, u64_or32, u64_or40, u64_or48, u64_or56]
end Go.Proofs.YtjleceekccehoaaGreatDoor.Pr
end

section
set_option linter.unusedVariables false
set_option linter.unusedSimpArgs false
namespace Go.Proofs.YtjleceekccehoaaGreatDoor.Pr
open Go.RowKit

theorem BsM.below {w w' : World} {g o : Nat} {t : ByteArray} (h : BsM w g o t) (hg : g < w.heap.size) (hb : Below w.heap.size w w') : BsM w' g o t := fun j hj => by
 have h1 := h j hj
 have h2 := hb.block g hg
 simp only [World.cell?] at h1 ⊢
 rw [h2]; exact h1
theorem BsM.lt {w : World} {g o : Nat} {t : ByteArray} (h : BsM w g o t) (h0 : 0 < t.size) : g < w.heap.size := World.block_lt_of_cell? w _ (h 0 h0)
theorem BsM.drop {w : World} {g o : Nat} {t : ByteArray} (h : BsM w g o t) (k : Nat) : BsM w g (o + k) (t.extract k t.size) := fun j hj => by
 have h1 : k + j < t.size := by rw [Lib.ext_size] at hj; omega
 have h2 := h (k + j) h1
 rw [Nat.add_assoc, h2]
 congr 3
 simp [ByteArray.getElem_eq_getElem_data, ByteArray.data_extract]
theorem below_drewQ {B : Nat} {a w : World} (h : Below B a w) : ∀ q, Below B a (w.drewN q)
 | 0 => h
 | q + 1 => (below_drewQ h q).drew
theorem and7r : ∀ X : Fin 256, bits .and .u8 ((X.val : Nat) : Int) 7 = ((X.val % 8 : Nat) : Int) := by decide +kernel
theorem wW {w : World} {g o : Nat} {t : ByteArray} (h : BsM w g o t) (hg : g < w.heap.size) (ht : 8 ≤ t.size) (n c : Nat) (hn : t.size = n) (x : Nat) (hx : Lib.leNat [t.get! 0, t.get! 1, t.get! 2, t.get! 3, t.get! 4, t.get! 5, t.get! 6, t.get! 7] = x) (W : World) (hb : Below w.heap.size w W) :
  Calls Tryz.prog 113 #[.slice (some ⟨g, o, none⟩) n c] W fun e w' => e = .returned (.int .u64 x) ∧ ∃ q, w' = W.drewN q := by
 subst hn; subst hx
 exact u8word_any t ht g o c W (h.below hg hb)
set_option maxHeartbeats 1000000 in
set_option maxRecDepth 100000 in
theorem valid_nil (A : Option Addr) (c : Nat) (w : World) : Calls Tryz.prog 75 #[.slice A 0 c] w fun e w' => e = .returned (.bool true) ∧ Below w.heap.size w w' := by
 have h0 : (0 : Int) ≤ (c : Int) := by omega
 cases A with
 | none =>
  go_enter Tryz.func75, Tryz.ntmps75
  go_wp2_with fail
  go_loopg [0] 1 (fun gk v0 wx => wx = w ∧ ∃ A, v0 = .slice A 0 0)
  case atStart => exact ⟨rfl, _, rfl⟩
  case round =>
   obtain ⟨rfl, A, rfl⟩ := hrel
   go_wp2_with fail
   go_ret
   exact ⟨rfl, Below.refl _ _⟩
 | some a =>
  go_enter Tryz.func75, Tryz.ntmps75
  go_wp2_with fail
  go_loopg [0] 1 (fun gk v0 wx => wx = w ∧ ∃ A, v0 = .slice A 0 0)
  case atStart => exact ⟨rfl, _, rfl⟩
  case round =>
   obtain ⟨rfl, A, rfl⟩ := hrel
   go_wp2_with fail
   go_ret
   exact ⟨rfl, Below.refl _ _⟩
set_option maxHeartbeats 16000000 in
set_option maxRecDepth 1000000 in
theorem valid_row (s : ByteArray) (hs : s.size ≤ 1000000) (g0 o0 c : Nat) (hc : s.size ≤ c) (w : World) (h0s : 0 < s.size) (hM0 : BsM w g0 o0 s) (hT : Lib.Utf8Tabs 4 5 w) :
  Calls Tryz.prog 75 #[.slice (some ⟨g0, o0, none⟩) s.size c] w fun e w' => e = .returned (.bool (Lib.validD s.data.toList)) ∧ Below w.heap.size w w' := by
 obtain ⟨ANS, hANS⟩ : ∃ ANS, Lib.validD s.data.toList = ANS := ⟨_, rfl⟩
 rw [hANS]
 have hcz : (s.size : Int) ≤ (c : Int) := by omega
 have hg0 := hM0.lt h0s
 go_enter Tryz.func75, Tryz.ntmps75
 go_wp2_with fail
 go_loopg [0] (s.size + 1) (fun gk v0 wx => Below w.heap.size w wx ∧ ∃ (g o : Nat) (t : ByteArray), v0 = .slice (some ⟨g, o, none⟩) t.size t.size ∧ Lib.validD t.data.toList = ANS ∧ t.size < gk ∧ t.size ≤ 1000000 ∧ BsM w g o t ∧ g < w.heap.size)
 case atStart => exact ⟨Below.refl _ _, g0, o0, s, by first | rfl | simp, hANS, by omega, hs, hM0, hg0⟩
 case round =>
  obtain ⟨hbw, g, o, t, rfl, hv, hgk, hts, hM, hg⟩ := hrel
  clear hANS hM0 hg0 hcz h0s hs hc
  have hTr := Utf8Tabs_below hT hbw
  by_cases h0 : 0 < t.size
  ·obtain ⟨g', rfl⟩ : ∃ g', gk = g' + 1 := ⟨gk - 1, by omega⟩
   have h0z : (0 : Int) < (t.size : Int) := by omega
   obtain ⟨x0, hx0⟩ : ∃ x0, t.get! 0 = x0 := ⟨_, rfl⟩
   have m0 := (hM.below hg hbw).get 0 h0
   rw [hx0, Nat.add_zero] at m0
   have hx0lt : x0.toNat < 256 := x0.toNat_lt
   by_cases hasc : x0.toNat < 128
   ·as_aux_lemma =>
     have hascz : (x0.toNat : Int) < 128 := by omega
     have a1 : Lib.Asc t 1 := Lib.asc_one t h0 (by rw [hx0]; exact hasc)
     obtain ⟨t1, ht1⟩ : ∃ t1, t.extract 1 t.size = t1 := ⟨_, rfl⟩
     obtain ⟨n1, hn1⟩ : ∃ n1, t1.size = n1 := ⟨_, rfl⟩
     have z1 : n1 + 1 = t.size := by rw [← hn1, ← ht1, Lib.ext_size]; omega
     have v1 : Lib.validD t1.data.toList = ANS := by rw [← ht1, Lib.valid_skip t 1 a1]; exact hv
     have M1 : BsM w g (o + 1) t1 := by rw [← ht1]; exact hM.drop 1
     obtain ⟨T, hT0⟩ : ∃ T, t.size = T := ⟨_, rfl⟩
     rw [hT0] at z1 h0z hgk hts ⊢
     obtain rfl : T = n1 + 1 := by omega
     clear hTr hT hv a1 hM ht1 h0 hT0 h0z
     by_cases c0 : n1 = 0
     ·subst c0
      go_wp2_with fail
      go_roundg g'
      case measure => omega
      case rel => exact ⟨hbw, g, o, t1, by rw [hn1], v1, by omega, by omega, fun j hj => by omega, hg⟩
     by_cases c8 : 8 < n1
     ·obtain ⟨n2, rfl⟩ : ∃ n2, n1 = n2 + 8 := ⟨n1 - 8, by omega⟩
      have c8z : (8 : Int) < (n2 : Int) + 8 := by omega
      have c8n : ¬ n2 = 0 := by omega
      obtain ⟨A1, hA1⟩ : ∃ A1, Lib.leNat [t1.get! 0, t1.get! 1, t1.get! 2, t1.get! 3, t1.get! 4, t1.get! 5, t1.get! 6, t1.get! 7] = A1 := ⟨_, rfl⟩
      have lA1 : A1 < 18446744073709551616 := hA1 ▸ Lib.word_lt t1
      have cW1 := wW M1 hg (by omega) _ (n2 + 8) hn1 A1 hA1
      have kA1 := Lib.word_asc t1 (by omega)
      rw [hA1] at kA1
      have hand1 : bits .and .u64 (A1 : Int) 9259542123273814144 = ((A1 &&& 9259542123273814144 : Nat) : Int) := u64_and_nat A1 9259542123273814144 lA1 (by omega)
      obtain ⟨Z1, hZ1⟩ : ∃ Z1, A1 &&& 9259542123273814144 = Z1 := ⟨_, rfl⟩
      rw [hZ1] at hand1 kA1
      clear hZ1 hA1 lA1
      by_cases hz1 : Z1 = 0
      ·have hz1b : ((Z1 : Int) == 0) = true := by simp [hz1]
       have a8 := kA1.1 hz1
       obtain ⟨t2, ht2⟩ : ∃ t2, t1.extract 8 t1.size = t2 := ⟨_, rfl⟩
       have hn2 : t2.size = n2 := by rw [← ht2, Lib.ext_size, hn1]; omega
       have v2 : Lib.validD t2.data.toList = ANS := by rw [← ht2, Lib.valid_skip t1 8 a8]; exact v1
       have M2 : BsM w g (o + 1 + 8) t2 := by rw [← ht2]; exact M1.drop 8
       clear kA1 a8 v1 hz1 M1 ht2
       go_wp2_with (go_at_call 113; refine (cW1 _ (by exact hbw)).mono ?_; rintro e_ W1 ⟨rfl, q1, rfl⟩)
       have HB1 : Below w.heap.size w (wr.drewN q1) := below_drewQ hbw q1
       generalize wr.drewN q1 = wq at HB1 ⊢
       clear cW1 hbw
       by_cases c16 : 16 < n2
       ·obtain ⟨n3, rfl⟩ : ∃ n3, n2 = n3 + 16 := ⟨n2 - 16, by omega⟩
        have c16z : (16 : Int) < (n3 : Int) + 16 := by omega
        have c16n : ¬ n3 = 0 := by omega
        obtain ⟨t2b, ht2b⟩ : ∃ t2b, t2.extract 8 t2.size = t2b := ⟨_, rfl⟩
        have hn2b : t2b.size = n3 + 8 := by rw [← ht2b, Lib.ext_size, hn2]; omega
        have M2b : BsM w g (o + 1 + 8 + 8) t2b := by rw [← ht2b]; exact M2.drop 8
        obtain ⟨A2, hA2⟩ : ∃ A2, Lib.leNat [t2.get! 0, t2.get! 1, t2.get! 2, t2.get! 3, t2.get! 4, t2.get! 5, t2.get! 6, t2.get! 7] = A2 := ⟨_, rfl⟩
        have lA2 : A2 < 18446744073709551616 := hA2 ▸ Lib.word_lt t2
        have cW2 := wW M2 hg (by omega) _ (n3 + 16) hn2 A2 hA2
        have kA2 := Lib.word_asc t2 (by omega)
        rw [hA2] at kA2
        obtain ⟨A3, hA3⟩ : ∃ A3, Lib.leNat [t2b.get! 0, t2b.get! 1, t2b.get! 2, t2b.get! 3, t2b.get! 4, t2b.get! 5, t2b.get! 6, t2b.get! 7] = A3 := ⟨_, rfl⟩
        have lA3 : A3 < 18446744073709551616 := hA3 ▸ Lib.word_lt t2b
        have cW3 := wW M2b hg (by omega) _ (n3 + 8) hn2b A3 hA3
        have kA3 := Lib.word_asc t2b (by omega)
        rw [hA3] at kA3
        have hor2 : bits .or .u64 (A2 : Int) (A3 : Int) = ((A2 ||| A3 : Nat) : Int) := u64_or_nat A2 A3 lA2 lA3
        have lor2 : A2 ||| A3 < 18446744073709551616 := Nat.or_lt_two_pow (n := 64) lA2 lA3
        have hand2 : bits .and .u64 ((A2 ||| A3 : Nat) : Int) 9259542123273814144 = (((A2 ||| A3) &&& 9259542123273814144 : Nat) : Int) := u64_and_nat _ 9259542123273814144 lor2 (by omega)
        have k2 : (A2 ||| A3) &&& 9259542123273814144 = 0 → Lib.Asc t2 16 := fun h0' => by
         obtain ⟨e1, e2⟩ := (Lib.or_mask A2 A3 _).1 h0'
         exact Lib.asc_add t2 8 8 (kA2.1 e1) (by rw [ht2b]; exact kA3.1 e2)
        obtain ⟨O2, hO2⟩ : ∃ O2, A2 ||| A3 = O2 := ⟨_, rfl⟩
        rw [hO2] at hor2 hand2 k2
        obtain ⟨Z2, hZ2⟩ : ∃ Z2, O2 &&& 9259542123273814144 = Z2 := ⟨_, rfl⟩
        rw [hZ2] at hand2 k2
        clear kA2 kA3 lor2 hO2 hZ2 hA2 hA3 lA2 lA3 ht2b hn2b M2b
        by_cases hz2 : Z2 = 0
        ·have hz2b : ((Z2 : Int) == 0) = true := by simp [hz2]
         have a16 := k2 hz2
         obtain ⟨t3, ht3⟩ : ∃ t3, t2.extract 16 t2.size = t3 := ⟨_, rfl⟩
         have hn3 : t3.size = n3 := by rw [← ht3, Lib.ext_size, hn2]; omega
         have v3 : Lib.validD t3.data.toList = ANS := by rw [← ht3, Lib.valid_skip t2 16 a16]; exact v2
         have M3 : BsM w g (o + 1 + 8 + 16) t3 := by rw [← ht3]; exact M2.drop 16
         clear k2 a16 v2 hz2 M2 ht3
         go_quiet (first | (go_at_call 113; with_reducible refine Calls.quiet_of (cW2 _ (by first | exact HB1 | exact below_drewQ HB1 _ | exact HB1.drew))) | (go_at_call 113; with_reducible refine Calls.quiet_of (cW3 _ (by first | exact HB1 | exact below_drewQ HB1 _ | exact HB1.drew))))
         have HB2 : Below w.heap.size w (wq.drewN nq) := below_drewQ HB1 nq
         generalize wq.drewN nq = wq2 at HB2 ⊢
         clear cW2 cW3 HB1
         go_wp2_with fail
         go_loopg [0] (n3 + 1) (fun g2 v0 wx => Below w.heap.size w wx ∧ ∃ (o2 : Nat) (u : ByteArray), v0 = .slice (some ⟨g, o2, none⟩) u.size u.size ∧ Lib.validD u.data.toList = ANS ∧ u.size < g2 ∧ u.size ≤ n3 ∧ BsM w g o2 u)
         case atStart => exact ⟨HB2, o + 1 + 8 + 16, t3, by rw [hn3], v3, by omega, by omega, M3⟩
         case round =>
          clear HB2 v3 M3
          obtain ⟨hbu, o2, u, rfl, vu, hgu, hut, Mu⟩ := hrel
          obtain ⟨k, hk⟩ : ∃ k, u.size = k := ⟨_, rfl⟩
          rw [hk] at hgu hut ⊢
          by_cases c32 : 32 < k
          ·obtain ⟨g3, rfl⟩ : ∃ g3, gk = g3 + 1 := ⟨gk - 1, by omega⟩
           obtain ⟨n4, rfl⟩ : ∃ n4, k = n4 + 32 := ⟨k - 32, by omega⟩
           have c32z : (32 : Int) < (n4 : Int) + 32 := by omega
           have c32n : ¬ n4 = 0 := by omega
           obtain ⟨ub, hub⟩ : ∃ ub, u.extract 8 u.size = ub := ⟨_, rfl⟩
           have zub : ub.size = n4 + 24 := by rw [← hub, Lib.ext_size]; omega
           have Mb : BsM w g (o2 + 8) ub := by rw [← hub]; exact Mu.drop 8
           obtain ⟨uc, huc⟩ : ∃ uc, u.extract 16 u.size = uc := ⟨_, rfl⟩
           have zuc : uc.size = n4 + 16 := by rw [← huc, Lib.ext_size]; omega
           have Mc : BsM w g (o2 + 16) uc := by rw [← huc]; exact Mu.drop 16
           obtain ⟨ud, hud⟩ : ∃ ud, u.extract 24 u.size = ud := ⟨_, rfl⟩
           have zud : ud.size = n4 + 8 := by rw [← hud, Lib.ext_size]; omega
           have Md : BsM w g (o2 + 24) ud := by rw [← hud]; exact Mu.drop 24
           obtain ⟨B0, hB0⟩ : ∃ B, Lib.leNat [u.get! 0, u.get! 1, u.get! 2, u.get! 3, u.get! 4, u.get! 5, u.get! 6, u.get! 7] = B := ⟨_, rfl⟩
           have lB0 : B0 < 18446744073709551616 := hB0 ▸ Lib.word_lt u
           have cB0 := wW Mu hg (by omega) _ (n4 + 32) hk B0 hB0
           have kB0 := Lib.word_asc u (by omega)
           rw [hB0] at kB0
           obtain ⟨B1, hB1⟩ : ∃ B, Lib.leNat [ub.get! 0, ub.get! 1, ub.get! 2, ub.get! 3, ub.get! 4, ub.get! 5, ub.get! 6, ub.get! 7] = B := ⟨_, rfl⟩
           have lB1 : B1 < 18446744073709551616 := hB1 ▸ Lib.word_lt ub
           have cB1 := wW Mb hg (by omega) _ (n4 + 24) zub B1 hB1
           have kB1 := Lib.word_asc ub (by omega)
           rw [hB1] at kB1
           obtain ⟨B2, hB2⟩ : ∃ B, Lib.leNat [uc.get! 0, uc.get! 1, uc.get! 2, uc.get! 3, uc.get! 4, uc.get! 5, uc.get! 6, uc.get! 7] = B := ⟨_, rfl⟩
           have lB2 : B2 < 18446744073709551616 := hB2 ▸ Lib.word_lt uc
           have cB2 := wW Mc hg (by omega) _ (n4 + 16) zuc B2 hB2
           have kB2 := Lib.word_asc uc (by omega)
           rw [hB2] at kB2
           obtain ⟨B3, hB3⟩ : ∃ B, Lib.leNat [ud.get! 0, ud.get! 1, ud.get! 2, ud.get! 3, ud.get! 4, ud.get! 5, ud.get! 6, ud.get! 7] = B := ⟨_, rfl⟩
           have lB3 : B3 < 18446744073709551616 := hB3 ▸ Lib.word_lt ud
           have cB3 := wW Md hg (by omega) _ (n4 + 8) zud B3 hB3
           have kB3 := Lib.word_asc ud (by omega)
           rw [hB3] at kB3
           have ho1 : bits .or .u64 (B0 : Int) (B1 : Int) = ((B0 ||| B1 : Nat) : Int) := u64_or_nat B0 B1 lB0 lB1
           have ho2 : bits .or .u64 (B2 : Int) (B3 : Int) = ((B2 ||| B3 : Nat) : Int) := u64_or_nat B2 B3 lB2 lB3
           have lo1 : B0 ||| B1 < 18446744073709551616 := Nat.or_lt_two_pow (n := 64) lB0 lB1
           have lo2 : B2 ||| B3 < 18446744073709551616 := Nat.or_lt_two_pow (n := 64) lB2 lB3
           have ho3 : bits .or .u64 ((B0 ||| B1 : Nat) : Int) ((B2 ||| B3 : Nat) : Int) = (((B0 ||| B1) ||| (B2 ||| B3) : Nat) : Int) := u64_or_nat _ _ lo1 lo2
           have lo3 : (B0 ||| B1) ||| (B2 ||| B3) < 18446744073709551616 := Nat.or_lt_two_pow (n := 64) lo1 lo2
           have hand3 : bits .and .u64 (((B0 ||| B1) ||| (B2 ||| B3) : Nat) : Int) 9259542123273814144 = ((((B0 ||| B1) ||| (B2 ||| B3)) &&& 9259542123273814144 : Nat) : Int) := u64_and_nat _ 9259542123273814144 lo3 (by omega)
           have k3 : ((B0 ||| B1) ||| (B2 ||| B3)) &&& 9259542123273814144 = 0 → Lib.Asc u 32 := fun h0' => by
            obtain ⟨e01, e23⟩ := (Lib.or_mask _ _ _).1 h0'
            obtain ⟨e0, e1⟩ := (Lib.or_mask _ _ _).1 e01
            obtain ⟨e2, e3⟩ := (Lib.or_mask _ _ _).1 e23
            have s16 : Lib.Asc u 16 := Lib.asc_add u 8 8 (kB0.1 e0) (by rw [hub]; exact kB1.1 e1)
            have s24 : Lib.Asc u 24 := Lib.asc_add u 16 8 s16 (by rw [huc]; exact kB2.1 e2)
            exact Lib.asc_add u 24 8 s24 (by rw [hud]; exact kB3.1 e3)
           obtain ⟨P1, hP1⟩ : ∃ P1, B0 ||| B1 = P1 := ⟨_, rfl⟩
           obtain ⟨P2, hP2⟩ : ∃ P2, B2 ||| B3 = P2 := ⟨_, rfl⟩
           rw [hP1, hP2] at ho3 hand3 k3
           rw [hP1] at ho1
           rw [hP2] at ho2
           obtain ⟨P3, hP3⟩ : ∃ P3, P1 ||| P2 = P3 := ⟨_, rfl⟩
           rw [hP3] at ho3 hand3 k3
           obtain ⟨Z3, hZ3⟩ : ∃ Z3, P3 &&& 9259542123273814144 = Z3 := ⟨_, rfl⟩
           rw [hZ3] at hand3 k3
           clear kB0 kB1 kB2 kB3 lo1 lo2 lo3 hP1 hP2 hP3 hZ3 hB0 hB1 hB2 hB3 lB0 lB1 lB2 lB3 hub huc hud zub zuc zud Mb Mc Md
           by_cases hz3 : Z3 = 0
           ·have hz3b : ((Z3 : Int) == 0) = true := by simp [hz3]
            have a32 := k3 hz3
            obtain ⟨u2, hu2⟩ : ∃ u2, u.extract 32 u.size = u2 := ⟨_, rfl⟩
            have zu2 : u2.size = n4 := by rw [← hu2, Lib.ext_size]; omega
            have vu2 : Lib.validD u2.data.toList = ANS := by rw [← hu2, Lib.valid_skip u 32 a32]; exact vu
            have M4 : BsM w g (o2 + 32) u2 := by rw [← hu2]; exact Mu.drop 32
            clear k3 a32 hz3 hu2
            go_wp2_with fail
            go_quiet (first | (go_at_call 113; with_reducible refine Calls.quiet_of (cB0 _ (by first | exact hbu | exact below_drewQ hbu _ | exact hbu.drew))) | (go_at_call 113; with_reducible refine Calls.quiet_of (cB1 _ (by first | exact hbu | exact below_drewQ hbu _ | exact hbu.drew))) | (go_at_call 113; with_reducible refine Calls.quiet_of (cB2 _ (by first | exact hbu | exact below_drewQ hbu _ | exact hbu.drew))) | (go_at_call 113; with_reducible refine Calls.quiet_of (cB3 _ (by first | exact hbu | exact below_drewQ hbu _ | exact hbu.drew))))
            go_wp2_with fail
            go_roundg g3
            case measure => omega
            case rel => exact ⟨below_drewQ hbu nq, o2 + 32, u2, by rw [zu2], vu2, by omega, by omega, M4⟩
           ·have hz3b : ((Z3 : Int) == 0) = false := by simp; omega
            clear k3
            go_wp2_with fail
            go_quiet (first | (go_at_call 113; with_reducible refine Calls.quiet_of (cB0 _ (by first | exact hbu | exact below_drewQ hbu _ | exact hbu.drew))) | (go_at_call 113; with_reducible refine Calls.quiet_of (cB1 _ (by first | exact hbu | exact below_drewQ hbu _ | exact hbu.drew))) | (go_at_call 113; with_reducible refine Calls.quiet_of (cB2 _ (by first | exact hbu | exact below_drewQ hbu _ | exact hbu.drew))) | (go_at_call 113; with_reducible refine Calls.quiet_of (cB3 _ (by first | exact hbu | exact below_drewQ hbu _ | exact hbu.drew))))
            go_wp2_with fail
            go_roundg g'
            case measure => omega
            case rel => exact ⟨below_drewQ hbu nq, g, o2, u, by rw [hk], vu, by omega, by omega, Mu, hg⟩
          ·have c32z : ¬ ((32 : Int) < (k : Int)) := by omega
           have c32b : decide ((32 : Int) < (k : Int)) = false := decide_eq_false c32z
           go_wp2_with fail
           go_quiet (fail)
           go_wp2_with fail
           go_roundg g'
           case measure => omega
           case rel => exact ⟨below_drewQ hbu nq, g, o2, u, by rw [hk], vu, by omega, by omega, Mu, hg⟩
        ·have hz2b : ((Z2 : Int) == 0) = false := by simp; omega
         clear k2
         go_quiet (first | (go_at_call 113; with_reducible refine Calls.quiet_of (cW2 _ (by first | exact HB1 | exact below_drewQ HB1 _ | exact HB1.drew))) | (go_at_call 113; with_reducible refine Calls.quiet_of (cW3 _ (by first | exact HB1 | exact below_drewQ HB1 _ | exact HB1.drew))))
         go_wp2_with fail
         go_roundg g'
         case measure => omega
         case rel => exact ⟨below_drewQ HB1 nq, g, o + 1 + 8, t2, by rw [hn2], v2, by omega, by omega, M2, hg⟩
       ·have c16z : ¬ ((16 : Int) < (n2 : Int)) := by omega
        have c16b : decide ((16 : Int) < (n2 : Int)) = false := decide_eq_false c16z
        go_quiet (fail)
        go_wp2_with fail
        go_roundg g'
        case measure => omega
        case rel => exact ⟨below_drewQ HB1 nq, g, o + 1 + 8, t2, by rw [hn2], v2, by omega, by omega, M2, hg⟩
      ·have hz1b : ((Z1 : Int) == 0) = false := by simp; omega
       go_wp2_with (go_at_call 113; refine (cW1 _ (by exact hbw)).mono ?_; rintro e_ W1 ⟨rfl, q1, rfl⟩)
       go_roundg g'
       case measure => omega
       case rel => exact ⟨below_drewQ hbw q1, g, o + 1, t1, by rw [hn1], v1, by omega, by omega, M1, hg⟩
     ·have c8z : ¬ ((8 : Int) < (n1 : Int)) := by omega
      go_wp2_with fail
      go_roundg g'
      case measure => omega
      case rel => exact ⟨hbw, g, o + 1, t1, by rw [hn1], v1, by omega, by omega, M1, hg⟩
   ·-- a byte from 128 on
    have hge : 128 ≤ x0.toNat := by omega
    have hascz : ¬ ((x0.toNat : Int) < 128) := by omega
    obtain ⟨x1, hx1⟩ : ∃ x, t.get! 1 = x := ⟨_, rfl⟩
    obtain ⟨x2, hx2⟩ : ∃ x, t.get! 2 = x := ⟨_, rfl⟩
    obtain ⟨x3, hx3⟩ : ∃ x, t.get! 3 = x := ⟨_, rfl⟩
    have l1 := x1.toNat_lt; have l2 := x2.toNat_lt; have l3 := x3.toNat_lt
    have hne : t.data.toList ≠ [] := fun h => by rw [Lib.size_eq, h] at h0; simp at h0
    have hlead := Lib.validD_lead t.data.toList hne (by rw [Lib.getD_get!', hx0]; exact hge)
    rw [Lib.getD_get!', Lib.getD_get!', Lib.getD_get!', Lib.getD_get!', hx0, hx1, hx2, hx3, ← Lib.size_eq, hv] at hlead
    have hc0 := hTr.1 x0.toNat hx0lt
    have hXlt : Lib.firstT x0.toNat < 256 := by rcases Lib.firstT_cases x0.toNat with h | h | h | h | h | h | h | h | h <;> omega
    obtain ⟨X, hX⟩ : ∃ X, Lib.firstT x0.toNat = X := ⟨_, rfl⟩
    rw [hX] at hc0 hXlt hlead
    have h7 := and7r ⟨X, hXlt⟩
    simp only at h7
    have ha0 : wr.cell? ⟨5, X / 16 * 2, none⟩ = some (.int .u8 (Lib.accLo (X / 16))) := by rw [Nat.mul_comm]; exact (hTr.2 (X / 16) (by omega)).1
    have ha1 : wr.cell? ⟨5, X / 16 * 2 + 1, none⟩ = some (.int .u8 (Lib.accHi (X / 16))) := by rw [Nat.mul_comm]; exact (hTr.2 (X / 16) (by omega)).2
    obtain ⟨LO, hLO⟩ : ∃ LO, Lib.accLo (X / 16) = LO := ⟨_, rfl⟩
    obtain ⟨HI, hHI⟩ : ∃ HI, Lib.accHi (X / 16) = HI := ⟨_, rfl⟩
    rw [hLO] at ha0 hlead
    rw [hHI] at ha1 hlead
    obtain ⟨SZ, hSZ⟩ : ∃ SZ, X % 8 = SZ := ⟨_, rfl⟩
    rw [hSZ] at hlead
    have hgw : g < wr.heap.size := Nat.lt_of_lt_of_le hg hbw.size
    obtain ⟨T, hT0⟩ : ∃ T, t.size = T := ⟨_, rfl⟩
    have hMw := hM.below hg hbw
    clear hTr hT hX hv hLO hHI hne h0z
    have h0z : (0 : Int) < (T : Int) := by omega
    rw [hT0] at hgk hts hlead h0 ⊢
    by_cases s2 : SZ = 2
    ·subst s2
     have hSZz : (X : Int) % 8 = 2 := by omega
     simp only [Lib.checkN, Nat.reduceEqDiff, if_true, if_false] at hlead
     go_upto_region 18 with fail
     go_cut [103] from 85 to 103 (fun c wx => c = .bool (decide (T < 2 ∨ x1.toNat < LO ∨ HI < x1.toNat)) ∧ Below w.heap.size w wx)
     case first =>
      by_cases q0 : T < 2
      ·have q0z : (T : Int) < 2 := by omega
       as_aux_lemma =>
        go_quiet (fail)
        go_wp2
        go_meet
        exact ⟨congrArg Value.bool (decide_eq_true (p := T < 2 ∨ x1.toNat < LO ∨ HI < x1.toNat) (by omega)).symm, below_drewQ (hbw.alloc hbw.size _) _⟩
      ·have q0z : ¬ ((T : Int) < 2) := by omega
       have hz1 : (1 : Int) < (T : Int) := by omega
       have m1 := hMw.get 1 (by omega)
       rw [hx1] at m1
       by_cases q1 : x1.toNat < LO
       ·have q1z : (x1.toNat : Int) < (LO : Int) := by omega
        as_aux_lemma =>
         go_quiet (fail)
         go_wp2
         go_meet
         exact ⟨congrArg Value.bool (decide_eq_true (p := T < 2 ∨ x1.toNat < LO ∨ HI < x1.toNat) (by omega)).symm, below_drewQ (hbw.alloc hbw.size _) _⟩
       ·have q1z : ¬ ((x1.toNat : Int) < (LO : Int)) := by omega
        by_cases q2 : HI < x1.toNat
        ·have q2z : (HI : Int) < (x1.toNat : Int) := by omega
         as_aux_lemma =>
          go_quiet (fail)
          go_wp2
          go_meet
          exact ⟨congrArg Value.bool (decide_eq_true (p := T < 2 ∨ x1.toNat < LO ∨ HI < x1.toNat) (by omega)).symm, below_drewQ (hbw.alloc hbw.size _) _⟩
        ·have q2z : ¬ ((HI : Int) < (x1.toNat : Int)) := by omega
         as_aux_lemma =>
          go_quiet (fail)
          go_wp2
          go_meet
          exact ⟨congrArg Value.bool (decide_eq_false (p := T < 2 ∨ x1.toNat < LO ∨ HI < x1.toNat) (by omega)).symm, below_drewQ (hbw.alloc hbw.size _) _⟩
     case rest =>
      obtain ⟨rfl, hbc⟩ := hcut
      by_cases hb : T < 2 ∨ x1.toNat < LO ∨ HI < x1.toNat
      ·have hbd : decide (T < 2 ∨ x1.toNat < LO ∨ HI < x1.toNat) = true := decide_eq_true hb
       rw [if_pos hb] at hlead
       go_wp2
       all_goals (go_ret; exact ⟨by first | rfl | rw [hlead], hbc⟩)
      ·have hbd : decide (T < 2 ∨ x1.toNat < LO ∨ HI < x1.toNat) = false := decide_eq_false hb
       rw [if_neg hb] at hlead
       by_cases ce : T = 2
       ·subst ce
        go_wp2
        go_roundg g'
        case measure => omega
        case rel => exact ⟨hbc, g, o, t.extract 2 t.size, by rw [Lib.ext_size, hT0], by rw [Lib.ext_list, hlead], by rw [Lib.ext_size]; omega, by rw [Lib.ext_size]; omega, fun j hj => by rw [Lib.ext_size] at hj; omega, hg⟩
       ·obtain ⟨T2, rfl⟩ : ∃ T2, T = T2 + 2 := ⟨T - 2, by omega⟩
        have ce2 : ¬ T2 = 0 := by omega
        go_wp2
        go_roundg g'
        case measure => omega
        case rel => exact ⟨hbc, g, o + 2, t.extract 2 t.size, by rw [Lib.ext_size, hT0]; simp, by rw [Lib.ext_list, hlead], by rw [Lib.ext_size]; omega, by rw [Lib.ext_size]; omega, hM.drop 2, hg⟩
    by_cases s3 : SZ = 3
    ·subst s3
     have hSZz : (X : Int) % 8 = 3 := by omega
     simp only [Lib.checkN, Nat.reduceEqDiff, if_true, if_false] at hlead
     go_upto_region 22 with fail
     go_cut [138] from 108 to 138 (fun c wx => c = .bool (decide (T < 3 ∨ x1.toNat < LO ∨ HI < x1.toNat ∨ x2.toNat < 128 ∨ 191 < x2.toNat)) ∧ Below w.heap.size w wx)
     case first =>
      by_cases q0 : T < 3
      ·have q0z : (T : Int) < 3 := by omega
       as_aux_lemma =>
        go_quiet (fail)
        go_wp2
        go_meet
        exact ⟨congrArg Value.bool (decide_eq_true (p := T < 3 ∨ x1.toNat < LO ∨ HI < x1.toNat ∨ x2.toNat < 128 ∨ 191 < x2.toNat) (by omega)).symm, below_drewQ (hbw.alloc hbw.size _) _⟩
      ·have q0z : ¬ ((T : Int) < 3) := by omega
       have hz1 : (1 : Int) < (T : Int) := by omega
       have m1 := hMw.get 1 (by omega)
       rw [hx1] at m1
       have hz2 : (2 : Int) < (T : Int) := by omega
       have m2 := hMw.get 2 (by omega)
       rw [hx2] at m2
       by_cases q1 : x1.toNat < LO
       ·have q1z : (x1.toNat : Int) < (LO : Int) := by omega
        as_aux_lemma =>
         go_quiet (fail)
         go_wp2
         go_meet
         exact ⟨congrArg Value.bool (decide_eq_true (p := T < 3 ∨ x1.toNat < LO ∨ HI < x1.toNat ∨ x2.toNat < 128 ∨ 191 < x2.toNat) (by omega)).symm, below_drewQ (hbw.alloc hbw.size _) _⟩
       ·have q1z : ¬ ((x1.toNat : Int) < (LO : Int)) := by omega
        by_cases q2 : HI < x1.toNat
        ·have q2z : (HI : Int) < (x1.toNat : Int) := by omega
         as_aux_lemma =>
          go_quiet (fail)
          go_wp2
          go_meet
          exact ⟨congrArg Value.bool (decide_eq_true (p := T < 3 ∨ x1.toNat < LO ∨ HI < x1.toNat ∨ x2.toNat < 128 ∨ 191 < x2.toNat) (by omega)).symm, below_drewQ (hbw.alloc hbw.size _) _⟩
        ·have q2z : ¬ ((HI : Int) < (x1.toNat : Int)) := by omega
         by_cases q3 : x2.toNat < 128
         ·have q3z : (x2.toNat : Int) < 128 := by omega
          as_aux_lemma =>
           go_quiet (fail)
           go_wp2
           go_meet
           exact ⟨congrArg Value.bool (decide_eq_true (p := T < 3 ∨ x1.toNat < LO ∨ HI < x1.toNat ∨ x2.toNat < 128 ∨ 191 < x2.toNat) (by omega)).symm, below_drewQ (hbw.alloc hbw.size _) _⟩
         ·have q3z : ¬ ((x2.toNat : Int) < 128) := by omega
          by_cases q4 : 191 < x2.toNat
          ·have q4z : 191 < (x2.toNat : Int) := by omega
           as_aux_lemma =>
            go_quiet (fail)
            go_wp2
            go_meet
            exact ⟨congrArg Value.bool (decide_eq_true (p := T < 3 ∨ x1.toNat < LO ∨ HI < x1.toNat ∨ x2.toNat < 128 ∨ 191 < x2.toNat) (by omega)).symm, below_drewQ (hbw.alloc hbw.size _) _⟩
          ·have q4z : ¬ (191 < (x2.toNat : Int)) := by omega
           as_aux_lemma =>
            go_quiet (fail)
            go_wp2
            go_meet
            exact ⟨congrArg Value.bool (decide_eq_false (p := T < 3 ∨ x1.toNat < LO ∨ HI < x1.toNat ∨ x2.toNat < 128 ∨ 191 < x2.toNat) (by omega)).symm, below_drewQ (hbw.alloc hbw.size _) _⟩
     case rest =>
      obtain ⟨rfl, hbc⟩ := hcut
      by_cases hb : T < 3 ∨ x1.toNat < LO ∨ HI < x1.toNat ∨ x2.toNat < 128 ∨ 191 < x2.toNat
      ·have hbd : decide (T < 3 ∨ x1.toNat < LO ∨ HI < x1.toNat ∨ x2.toNat < 128 ∨ 191 < x2.toNat) = true := decide_eq_true hb
       rw [if_pos hb] at hlead
       go_wp2
       all_goals (go_ret; exact ⟨by first | rfl | rw [hlead], hbc⟩)
      ·have hbd : decide (T < 3 ∨ x1.toNat < LO ∨ HI < x1.toNat ∨ x2.toNat < 128 ∨ 191 < x2.toNat) = false := decide_eq_false hb
       rw [if_neg hb] at hlead
       by_cases ce : T = 3
       ·subst ce
        go_wp2
        go_roundg g'
        case measure => omega
        case rel => exact ⟨hbc, g, o, t.extract 3 t.size, by rw [Lib.ext_size, hT0], by rw [Lib.ext_list, hlead], by rw [Lib.ext_size]; omega, by rw [Lib.ext_size]; omega, fun j hj => by rw [Lib.ext_size] at hj; omega, hg⟩
       ·obtain ⟨T2, rfl⟩ : ∃ T2, T = T2 + 3 := ⟨T - 3, by omega⟩
        have ce2 : ¬ T2 = 0 := by omega
        go_wp2
        go_roundg g'
        case measure => omega
        case rel => exact ⟨hbc, g, o + 3, t.extract 3 t.size, by rw [Lib.ext_size, hT0]; simp, by rw [Lib.ext_list, hlead], by rw [Lib.ext_size]; omega, by rw [Lib.ext_size]; omega, hM.drop 3, hg⟩
    by_cases s4 : SZ = 4
    ·subst s4
     have hSZz : (X : Int) % 8 = 4 := by omega
     simp only [Lib.checkN, Nat.reduceEqDiff, if_true, if_false] at hlead
     go_upto_region 26 with fail
     go_cut [185] from 143 to 185 (fun c wx => c = .bool (decide (T < 4 ∨ x1.toNat < LO ∨ HI < x1.toNat ∨ x2.toNat < 128 ∨ 191 < x2.toNat ∨ x3.toNat < 128 ∨ 191 < x3.toNat)) ∧ Below w.heap.size w wx)
     case first =>
      by_cases q0 : T < 4
      ·have q0z : (T : Int) < 4 := by omega
       as_aux_lemma =>
        go_quiet (fail)
        go_wp2
        go_meet
        exact ⟨congrArg Value.bool (decide_eq_true (p := T < 4 ∨ x1.toNat < LO ∨ HI < x1.toNat ∨ x2.toNat < 128 ∨ 191 < x2.toNat ∨ x3.toNat < 128 ∨ 191 < x3.toNat) (by omega)).symm, below_drewQ (hbw.alloc hbw.size _) _⟩
      ·have q0z : ¬ ((T : Int) < 4) := by omega
       have hz1 : (1 : Int) < (T : Int) := by omega
       have m1 := hMw.get 1 (by omega)
       rw [hx1] at m1
       have hz2 : (2 : Int) < (T : Int) := by omega
       have m2 := hMw.get 2 (by omega)
       rw [hx2] at m2
       have hz3 : (3 : Int) < (T : Int) := by omega
       have m3 := hMw.get 3 (by omega)
       rw [hx3] at m3
       by_cases q1 : x1.toNat < LO
       ·have q1z : (x1.toNat : Int) < (LO : Int) := by omega
        as_aux_lemma =>
         go_quiet (fail)
         go_wp2
         go_meet
         exact ⟨congrArg Value.bool (decide_eq_true (p := T < 4 ∨ x1.toNat < LO ∨ HI < x1.toNat ∨ x2.toNat < 128 ∨ 191 < x2.toNat ∨ x3.toNat < 128 ∨ 191 < x3.toNat) (by omega)).symm, below_drewQ (hbw.alloc hbw.size _) _⟩
       ·have q1z : ¬ ((x1.toNat : Int) < (LO : Int)) := by omega
        by_cases q2 : HI < x1.toNat
        ·have q2z : (HI : Int) < (x1.toNat : Int) := by omega
         as_aux_lemma =>
          go_quiet (fail)
          go_wp2
          go_meet
          exact ⟨congrArg Value.bool (decide_eq_true (p := T < 4 ∨ x1.toNat < LO ∨ HI < x1.toNat ∨ x2.toNat < 128 ∨ 191 < x2.toNat ∨ x3.toNat < 128 ∨ 191 < x3.toNat) (by omega)).symm, below_drewQ (hbw.alloc hbw.size _) _⟩
        ·have q2z : ¬ ((HI : Int) < (x1.toNat : Int)) := by omega
         by_cases q3 : x2.toNat < 128
         ·have q3z : (x2.toNat : Int) < 128 := by omega
          as_aux_lemma =>
           go_quiet (fail)
           go_wp2
           go_meet
           exact ⟨congrArg Value.bool (decide_eq_true (p := T < 4 ∨ x1.toNat < LO ∨ HI < x1.toNat ∨ x2.toNat < 128 ∨ 191 < x2.toNat ∨ x3.toNat < 128 ∨ 191 < x3.toNat) (by omega)).symm, below_drewQ (hbw.alloc hbw.size _) _⟩
         ·have q3z : ¬ ((x2.toNat : Int) < 128) := by omega
          by_cases q4 : 191 < x2.toNat
          ·have q4z : 191 < (x2.toNat : Int) := by omega
           as_aux_lemma =>
            go_quiet (fail)
            go_wp2
            go_meet
            exact ⟨congrArg Value.bool (decide_eq_true (p := T < 4 ∨ x1.toNat < LO ∨ HI < x1.toNat ∨ x2.toNat < 128 ∨ 191 < x2.toNat ∨ x3.toNat < 128 ∨ 191 < x3.toNat) (by omega)).symm, below_drewQ (hbw.alloc hbw.size _) _⟩
          ·have q4z : ¬ (191 < (x2.toNat : Int)) := by omega
           by_cases q5 : x3.toNat < 128
           ·have q5z : (x3.toNat : Int) < 128 := by omega
            as_aux_lemma =>
             go_quiet (fail)
             go_wp2
             go_meet
             exact ⟨congrArg Value.bool (decide_eq_true (p := T < 4 ∨ x1.toNat < LO ∨ HI < x1.toNat ∨ x2.toNat < 128 ∨ 191 < x2.toNat ∨ x3.toNat < 128 ∨ 191 < x3.toNat) (by omega)).symm, below_drewQ (hbw.alloc hbw.size _) _⟩
           ·have q5z : ¬ ((x3.toNat : Int) < 128) := by omega
            by_cases q6 : 191 < x3.toNat
            ·have q6z : 191 < (x3.toNat : Int) := by omega
             as_aux_lemma =>
              go_quiet (fail)
              go_wp2
              go_meet
              exact ⟨congrArg Value.bool (decide_eq_true (p := T < 4 ∨ x1.toNat < LO ∨ HI < x1.toNat ∨ x2.toNat < 128 ∨ 191 < x2.toNat ∨ x3.toNat < 128 ∨ 191 < x3.toNat) (by omega)).symm, below_drewQ (hbw.alloc hbw.size _) _⟩
            ·have q6z : ¬ (191 < (x3.toNat : Int)) := by omega
             as_aux_lemma =>
              go_quiet (fail)
              go_wp2
              go_meet
              exact ⟨congrArg Value.bool (decide_eq_false (p := T < 4 ∨ x1.toNat < LO ∨ HI < x1.toNat ∨ x2.toNat < 128 ∨ 191 < x2.toNat ∨ x3.toNat < 128 ∨ 191 < x3.toNat) (by omega)).symm, below_drewQ (hbw.alloc hbw.size _) _⟩
     case rest =>
      obtain ⟨rfl, hbc⟩ := hcut
      by_cases hb : T < 4 ∨ x1.toNat < LO ∨ HI < x1.toNat ∨ x2.toNat < 128 ∨ 191 < x2.toNat ∨ x3.toNat < 128 ∨ 191 < x3.toNat
      ·have hbd : decide (T < 4 ∨ x1.toNat < LO ∨ HI < x1.toNat ∨ x2.toNat < 128 ∨ 191 < x2.toNat ∨ x3.toNat < 128 ∨ 191 < x3.toNat) = true := decide_eq_true hb
       rw [if_pos hb] at hlead
       go_wp2
       all_goals (go_ret; exact ⟨by first | rfl | rw [hlead], hbc⟩)
      ·have hbd : decide (T < 4 ∨ x1.toNat < LO ∨ HI < x1.toNat ∨ x2.toNat < 128 ∨ 191 < x2.toNat ∨ x3.toNat < 128 ∨ 191 < x3.toNat) = false := decide_eq_false hb
       rw [if_neg hb] at hlead
       by_cases ce : T = 4
       ·subst ce
        go_wp2
        go_roundg g'
        case measure => omega
        case rel => exact ⟨hbc, g, o, t.extract 4 t.size, by rw [Lib.ext_size, hT0], by rw [Lib.ext_list, hlead], by rw [Lib.ext_size]; omega, by rw [Lib.ext_size]; omega, fun j hj => by rw [Lib.ext_size] at hj; omega, hg⟩
       ·obtain ⟨T2, rfl⟩ : ∃ T2, T = T2 + 4 := ⟨T - 4, by omega⟩
        have ce2 : ¬ T2 = 0 := by omega
        go_wp2
        go_roundg g'
        case measure => omega
        case rel => exact ⟨hbc, g, o + 4, t.extract 4 t.size, by rw [Lib.ext_size, hT0]; simp, by rw [Lib.ext_list, hlead], by rw [Lib.ext_size]; omega, by rw [Lib.ext_size]; omega, hM.drop 4, hg⟩
    have e2 : ¬ ((X : Int) % 8 = 2) := by omega
    have e2b : (((X : Int) % 8) == 2) = false := by simp; omega
    have e3 : ¬ ((X : Int) % 8 = 3) := by omega
    have e3b : (((X : Int) % 8) == 3) = false := by simp; omega
    have e4 : ¬ ((X : Int) % 8 = 4) := by omega
    have e4b : (((X : Int) % 8) == 4) = false := by simp; omega
    simp only [Lib.checkN, s2, s3, s4, if_false] at hlead
    go_wp2
    all_goals (go_ret; exact ⟨by first | rfl | rw [hlead], hbw.alloc hbw.size _⟩)
  ·have h0z : ¬ ((0 : Int) < (t.size : Int)) := by omega
   have ht0 : t.data.toList = [] := List.eq_nil_of_length_eq_zero (by rw [← Lib.size_eq]; omega)
   rw [ht0, Lib.validD_nil] at hv
   subst hv
   go_wp2_with fail
   go_ret
   exact ⟨rfl, hbw⟩
end Go.Proofs.YtjleceekccehoaaGreatDoor.Pr
end
