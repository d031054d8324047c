/- Texts of this session, cut down to what one claim needs and joined: LexRt. -/
import Derived.Test.YtjleceekccehoaaGreatDoorVGJ25
import Derived.Test.YtjleceekccehoaaGreatDoorVGJ26
import Derived.Test.YtjleceekccehoaaGreatDoorVFfRefP
set_option linter.unusedVariables false
set_option linter.unusedSimpArgs false
namespace Go.Proofs.YtjleceekccehoaaGreatDoor.Pr
open Go.RowKit Go.Proofs.YtjleceekccehoaaGreatDoorW.PrintWords Go.Proofs.YtjleceekccehoaaGreatDoorW.PrintLast Go.Proofs.YtjleceekccehoaaGreatDoorW.PrintMore

theorem kind_any (z : Nat) (hz : z < 256) (k : Nat) (hk : kindV z = k) (W : World) : Calls Tryz.prog 33 #[.int .u8 z] W fun e w' => e = .returned (.int .u8 k) ∧ Below W.heap.size W w' :=
 hk ▸ ((soundingsref08_kind.calls 2 z _ W (kind_f z hz 0)).mono fun e w' h => ⟨h.1, h.2.below⟩)
theorem j_w {i n j : Int} (h : i + n = j) (h1 : j ≤ 1000000) (h2 : 0 ≤ i) (h3 : i ≤ j) : wrap64 (i + n) = j := by unfold wrap64; omega
set_option maxHeartbeats 8000000 in
set_option maxRecDepth 100000 in
theorem rtok_let (l : List UInt8) (hl : l.length ≤ 1000000) (i : Nat) (c : UInt8) (r : List UInt8) (hA : At l i (c :: r)) (w : World) (hc : isLet c.toNat = true) :
  Calls Tryz.prog 34 #[.string (bs l), .int .i64 i] w fun e w' => RtE i e (tokAt (c :: r)) ∧ Below w.heap.size w w' := by
 have hsz := bs_size l
 have hil := hA.le
 have hlen := hA.len
 have HA := Aside0.mk hA
 have HL := Aside0.mk hl
 have t1 : (0 : Int) ≤ (i : Int) := by omega
 have t2 : (i : Int) ≤ (l.length : Int) := by omega
 have hlt := hA.lt
 have hbhz := hA.byte
 obtain ⟨z, hzz⟩ : ∃ z, c.toNat = z := ⟨_, rfl⟩
 have HZ := Aside0.mk hzz
 rw [hzz] at hbhz
 have hz : ∀ h : i < (bs l).size, ((bs l)[i]'h).toNat = z := fun h => by
  have h1 := hbhz
  unfold bt at h1
  rw [dif_pos (by simpa using h)] at h1
  simp only [Int.toNat_natCast] at h1
  omega
 have hzl : z < 256 := by rw [← hzz]; exact c.toNat_lt
 obtain ⟨kz, hkz⟩ : ∃ k, kindV z = k := ⟨_, rfl⟩
 have HK := Aside0.mk (fun W => kind_any z hzl kz hkz W)
 have HKZ := Aside0.mk hkz
 have t3 : (i : Int) < (l.length : Int) := by omega
 have HB := Aside0.mk (TkB.new1 w)
 rw [hzz] at hc
 have e97 : ((kz : Int) == 97) = true := by rw [beq_iff_eq, ← hkz, (kind97 z).2 hc]; rfl
 have HV0 := Aside0.mk (tokAt_let c r (by rw [hzz]; exact hc))
 clear hA hlt hbhz hzz hkz hlen hc hil
 go_enter Tryz.func34, Tryz.ntmps34
 go_wp2_with fail
 refine (HK.out _).mono ?_
 rintro e_ w_ ⟨rfl, hd_⟩
 have HB_ := Aside0.mk (HB.out.below hd_)
 clear hd_ HB
 have HB := HB_
 clear HB_
 go_wp2_with fail
 go_loopg [7] (c :: r).length (fun q v7 wx => ∃ (j : Nat) (s : List UInt8), v7 = .int .i64 (j : Int) ∧ q = s.length ∧ j ≤ l.length ∧ i ≤ j ∧ Aside0 (At l j s) ∧ Aside0 (j + run (fun z => isLet z || isDig z) s = i + run (fun z => isLet z || isDig z) (c :: r)) ∧ Aside0 (TkB w wx w.heap.size))
 case atStart => exact ⟨i, c :: r, by go_num, rfl, by omega, Nat.le_refl _, HA, ⟨rfl⟩, HB⟩
 case round =>
  clear HB
  obtain ⟨j, s, rfl, hq, hj, hij, HJ, HR, HB⟩ := hrel
  have HQQ := Aside0.mk hq
  clear hq
  have t4 : (0 : Int) ≤ (j : Int) := by omega
  have t5 : (i : Int) ≤ (j : Int) := by omega
  have t6 : (j : Int) ≤ (l.length : Int) := by omega
  cases s with
  | nil =>
   have hjl := HJ.out.nil
   have t7 : ((j : Int) < (l.length : Int)) = False := eq_false (by omega)
   have hrun : j + 0 = i + run (fun z => isLet z || isDig z) (c :: r) := HR.out
   rw [Nat.add_zero] at hrun
   clear hjl
   obtain ⟨n1, hn1⟩ : ∃ n, run (fun z => isLet z || isDig z) (c :: r) = n := ⟨_, rfl⟩
   have hjn : i + n1 = j := by omega
   have HV : Aside0 (tokAt (c :: r) = some (1, (c :: r).take n1, n1)) := ⟨by rw [HV0.out, hn1]⟩
   obtain ⟨b1, hb1⟩ : ∃ b, bs ((c :: r).take n1) = b := ⟨_, rfl⟩
   have hx1 : (bs l).extract i j = b1 := by rw [← hb1, bs_mid, HA.out.eq, ← hjn, show i + n1 - i = n1 from by omega]
   have HF := Aside0.mk (RtE.mk (i := i) (k := 1) (ki := 1) rfl hb1 hjn)
   clear hn1 hb1 hjn hrun
   have k0 := HB.out.c0
   have k1 := HB.out.c1
   have k2 := HB.out.c2
   have f0 := HB.out.f0 0
   have f1 := HB.out.f0 1
   have f2 := HB.out.f0 2
   have hltB := heap_lt HB.out.blk
   go_wp2_with fail
   have h3 := HB.out.set3 (.int .i64 1) (.int .i64 i) b1
   refine bodyPost_ret (results_list (rs := [.cell 4 41, .tmp 5]) rfl (by simp) (.cell w.heap.size 41 _ (0, 0) _ rfl h3 rfl rfl rfl (.tmp .nil))) rfl ?_
   rw [HV.out]
   exact ⟨by first | exact HF.out | (simp; exact HF.out), HB.out.bel3 _ _ _⟩
  | cons d s =>
   have hlt1 := HJ.out.lt
   have hbhz1 := HJ.out.byte
   obtain ⟨z1, hzz1⟩ : ∃ z, d.toNat = z := ⟨_, rfl⟩
   have HZ1 := Aside0.mk hzz1
   rw [hzz1] at hbhz1
   have hz1 : ∀ h : j < (bs l).size, ((bs l)[j]'h).toNat = z1 := fun h => by
    have h1 := hbhz1
    unfold bt at h1
    rw [dif_pos (by simpa using h)] at h1
    simp only [Int.toNat_natCast] at h1
    omega
   have hzl1 : z1 < 256 := by rw [← hzz1]; exact d.toNat_lt
   obtain ⟨kz1, hkz1⟩ : ∃ k, kindV z1 = k := ⟨_, rfl⟩
   have HK1 := Aside0.mk (fun W => kind_any z1 hzl1 kz1 hkz1 W)
   have HKZ1 := Aside0.mk hkz1
   have t7 : (j : Int) < (l.length : Int) := by omega
   have hrun := HR.out
   rw [run] at hrun
   have hlen1 := HJ.out.len
   by_cases hlet : isLet z1 = true
   ·have a97 : ((kz1 : Int) == 97) = true := by rw [beq_iff_eq, ← hkz1, (kind97 z1).2 hlet]; rfl
    rw [if_pos (by rw [hzz1]; simp [hlet])] at hrun
    have HR2 : Aside0 (j + 1 + run (fun z => isLet z || isDig z) s = i + run (fun z => isLet z || isDig z) (c :: r)) := ⟨by omega⟩
    have HJ2 := Aside0.mk HJ.out.next
    clear hrun hlen1 hkz1 hzz1 hbhz1 hlt1 hlet HR
    go_wp2_with fail
    refine (HK1.out _).mono ?_
    rintro e_ w_ ⟨rfl, hd_⟩
    have HB_ := Aside0.mk (HB.out.below hd_)
    clear hd_ HB
    have HB := HB_
    clear HB_
    go_wp2_with fail
    go_roundg s.length
    case measure => have := HQQ.out; simp at this; omega
    case rel => exact ⟨j + 1, s, by go_num, rfl, HJ2.out.le, by omega, HJ2, HR2, HB⟩
   ·have a97 : ((kz1 : Int) == 97) = false := by rw [beq_eq_false_iff_ne]; intro h; exact hlet ((kind97 z1).1 (by omega))
    by_cases hdig : isDig z1 = true
    ·have a48 : ((kz1 : Int) == 48) = true := by rw [beq_iff_eq, ← hkz1, (kind48 z1).2 hdig]; rfl
     rw [if_pos (by rw [hzz1]; simp [hlet, hdig])] at hrun
     have HR2 : Aside0 (j + 1 + run (fun z => isLet z || isDig z) s = i + run (fun z => isLet z || isDig z) (c :: r)) := ⟨by omega⟩
     have HJ2 := Aside0.mk HJ.out.next
     clear hrun hlen1 hkz1 hzz1 hbhz1 hlt1 hlet hdig HR
     go_wp2_with fail
     refine (HK1.out _).mono ?_
     rintro e_ w_ ⟨rfl, hd_⟩
     have HB_ := Aside0.mk (HB.out.below hd_)
     clear hd_ HB
     have HB := HB_
     clear HB_
     go_wp2_with fail
     refine (HK1.out _).mono ?_
     rintro e_ w_ ⟨rfl, hd_⟩
     have HB_ := Aside0.mk (HB.out.below hd_)
     clear hd_ HB
     have HB := HB_
     clear HB_
     go_wp2_with fail
     go_roundg s.length
     case measure => have := HQQ.out; simp at this; omega
     case rel => exact ⟨j + 1, s, by go_num, rfl, HJ2.out.le, by omega, HJ2, HR2, HB⟩
    ·have a48 : ((kz1 : Int) == 48) = false := by rw [beq_eq_false_iff_ne]; intro h; exact hdig ((kind48 z1).1 (by omega))
     rw [if_neg (by rw [hzz1]; simp [hlet, hdig])] at hrun
     rw [Nat.add_zero] at hrun
     obtain ⟨n1, hn1⟩ : ∃ n, run (fun z => isLet z || isDig z) (c :: r) = n := ⟨_, rfl⟩
     have hjn : i + n1 = j := by omega
     have HV : Aside0 (tokAt (c :: r) = some (1, (c :: r).take n1, n1)) := ⟨by rw [HV0.out, hn1]⟩
     obtain ⟨b1, hb1⟩ : ∃ b, bs ((c :: r).take n1) = b := ⟨_, rfl⟩
     have hx1 : (bs l).extract i j = b1 := by rw [← hb1, bs_mid, HA.out.eq, ← hjn, show i + n1 - i = n1 from by omega]
     have HF := Aside0.mk (RtE.mk (i := i) (k := 1) (ki := 1) rfl hb1 hjn)
     clear hn1 hb1 hjn hrun hlet hdig hlen1 hkz1 hzz1 hbhz1 hlt1 HR
     go_wp2_with fail
     refine (HK1.out _).mono ?_
     rintro e_ w_ ⟨rfl, hd_⟩
     have HB_ := Aside0.mk (HB.out.below hd_)
     clear hd_ HB
     have HB := HB_
     clear HB_
     go_wp2_with fail
     refine (HK1.out _).mono ?_
     rintro e_ w_ ⟨rfl, hd_⟩
     have HB_ := Aside0.mk (HB.out.below hd_)
     clear hd_ HB
     have HB := HB_
     clear HB_
     have k0 := HB.out.c0
     have k1 := HB.out.c1
     have k2 := HB.out.c2
     have f0 := HB.out.f0 0
     have f1 := HB.out.f0 1
     have f2 := HB.out.f0 2
     have hltB := heap_lt HB.out.blk
     go_wp2_with fail
     have h3 := HB.out.set3 (.int .i64 1) (.int .i64 i) b1
     refine bodyPost_ret (results_list (rs := [.cell 4 41, .tmp 5]) rfl (by simp) (.cell w.heap.size 41 _ (0, 0) _ rfl h3 rfl rfl rfl (.tmp .nil))) rfl ?_
     rw [HV.out]
     exact ⟨by first | exact HF.out | (simp; exact HF.out), HB.out.bel3 _ _ _⟩
set_option maxHeartbeats 8000000 in
set_option maxRecDepth 100000 in
theorem rtok_DN (l : List UInt8) (hl : l.length ≤ 1000000) (i : Nat) (c : UInt8) (r : List UInt8) (hA : At l i (c :: r)) (w : World) (hN : LaidN w) (hS : LaidS w) (hd : isDig c.toNat = true) (hK : (numTx (c :: r)).length ≤ 200 ∧ plainV (numTx (c :: r)) = true) :
  Calls Tryz.prog 34 #[.string (bs l), .int .i64 i] w fun e w' => RtE i e (tokAt (c :: r)) ∧ Below w.heap.size w w' := by
 have hsz := bs_size l
 have hil := hA.le
 have hlen := hA.len
 have HA := Aside0.mk hA
 have HL := Aside0.mk hl
 have t1 : (0 : Int) ≤ (i : Int) := by omega
 have t2 : (i : Int) ≤ (l.length : Int) := by omega
 have hlt := hA.lt
 have hbhz := hA.byte
 obtain ⟨z, hzz⟩ : ∃ z, c.toNat = z := ⟨_, rfl⟩
 have HZ := Aside0.mk hzz
 rw [hzz] at hbhz
 have hz : ∀ h : i < (bs l).size, ((bs l)[i]'h).toNat = z := fun h => by
  have h1 := hbhz
  unfold bt at h1
  rw [dif_pos (by simpa using h)] at h1
  simp only [Int.toNat_natCast] at h1
  omega
 have hzl : z < 256 := by rw [← hzz]; exact c.toNat_lt
 obtain ⟨kz, hkz⟩ : ∃ k, kindV z = k := ⟨_, rfl⟩
 have HK := Aside0.mk (fun W => kind_any z hzl kz hkz W)
 have HKZ := Aside0.mk hkz
 have t3 : (i : Int) < (l.length : Int) := by omega
 have HB := Aside0.mk (TkB.new1 w)
 have HN := Aside0.mk hN
 have HS := Aside0.mk hS
 clear hN hS
 rw [hzz] at hd
 have hor : isDig c.toNat = true ∨ c.toNat = 46 := Or.inl (by rw [hzz]; exact hd)
 have h0 : isNum0 (c :: r) = true := by unfold isNum0; simp only [hzz, hd]; rfl
 have hlet : isLet z = false := by have h1 : 48 ≤ z ∧ z ≤ 57 := (by simpa [isDig] using hd); rw [isLet_iff]; exact decide_eq_false (by omega)
 have hkv : kz = 48 := by rw [← hkz]; exact (kind48 z).2 hd
 have e97 : ((kz : Int) == 97) = false := by rw [beq_eq_false_iff_ne]; omega
 have e48 : ((kz : Int) == 48) = true := by rw [beq_iff_eq]; omega
 have HV0 := Aside0.mk (tokAt_num c r (by rw [hzz]; exact hlet) hor h0)
 have HBG := numTx_beg r hor
 have hnl := numTx_le (c :: r)
 obtain ⟨tx, htx⟩ : ∃ tx, numTx (c :: r) = tx := ⟨_, rfl⟩
 obtain ⟨n1, hn1⟩ : ∃ n, tx.length = n := ⟨_, rfl⟩
 obtain ⟨b1, hb1⟩ : ∃ b, bs tx = b := ⟨_, rfl⟩
 obtain ⟨j, hj⟩ : ∃ j, i + n1 = j := ⟨_, rfl⟩
 have hrun : runS true 0 (c :: r) = n1 := by rw [← hn1, ← htx]; unfold numTx; rw [List.length_take, Nat.min_eq_left (runS_le _ _ _)]
 rw [htx] at HBG hnl hK
 have hle : tx.length ≤ 1000000 := by omega
 have HNM : Aside0 (∀ W, Calls Tryz.prog 53 #[.string (bs l), .int .i64 i] W fun e w' => e = .returned (.int .i64 j) ∧ Below W.heap.size W w') := ⟨fun W => by rw [← hj, ← hrun]; exact (soundingsref08_number.calls (3 * l.length + 10) (bs l) _ _ W (number_f l HL.out i _ HA.out _ (Nat.le_refl _))).mono fun e w' h => ⟨h.1, h.2.below⟩⟩
 have hx1 : (bs l).extract i j = b1 := by rw [← hb1, bs_mid, HA.out.eq, ← hj, show i + n1 - i = n1 from by omega, ← htx, ← hrun]; rfl
 have HP : Aside0 (∀ W, LaidN W → LaidS W → Calls Tryz.prog 24 #[.string b1] W fun e w' => (∃ b : Int, e = .returned (.tuple #[.int .u64 b, .bool true])) ∧ Below W.heap.size W w') := ⟨fun W h1 h2 => by rw [← hb1]; refine (refParse_any tx HBG hle W h1 h2).mono ?_; rintro e w' ⟨h3, h4⟩; unfold RpE at h3; rw [if_pos hK] at h3; exact ⟨h3, h4⟩⟩
 have HV : Aside0 (tokAt (c :: r) = some (2, tx, n1)) := ⟨by rw [HV0.out]; unfold numT; rw [h0, if_pos rfl, htx, show numK tx = 2 from if_pos hK, if_neg (by decide), ← hn1]⟩
 have HF := Aside0.mk (RtE.mk (i := i) (k := 2) (ki := 2) rfl hb1 hj)
 have t11 : (i : Int) ≤ (j : Int) := by omega
 have t12 : (j : Int) ≤ (l.length : Int) := by omega
 clear hA hlt hbhz hzz hkz hlen hlet hkv hil HBG hnl htx hn1 hb1 hj hrun hle hK hor h0 hd
 go_enter Tryz.func34, Tryz.ntmps34
 go_wp2_with fail
 refine (HK.out _).mono ?_
 rintro e_ w_ ⟨rfl, hd_⟩
 have HB_ := Aside0.mk (HB.out.below hd_)
 clear hd_ HB
 have HB := HB_
 clear HB_
 go_wp2_with fail
 refine (HNM.out _).mono ?_
 rintro e_ w_ ⟨rfl, hd_⟩
 have HB_ := Aside0.mk (HB.out.below hd_)
 clear hd_ HB
 have HB := HB_
 clear HB_
 go_wp2_with fail
 refine (HP.out _ (HN.out.below HB.out.bel) (HS.out.below HB.out.bel)).mono ?_
 rintro e_ w_ ⟨⟨bv, rfl⟩, hd_⟩
 have HB_ := Aside0.mk (HB.out.below hd_)
 clear hd_ HB
 have HB := HB_
 clear HB_
 have k0 := HB.out.c0
 have k1 := HB.out.c1
 have k2 := HB.out.c2
 have f0 := HB.out.f0 0
 have f1 := HB.out.f0 1
 have f2 := HB.out.f0 2
 have hltB := heap_lt HB.out.blk
 go_wp2_with fail
 have h3 := HB.out.set3 (.int .i64 2) (.int .i64 i) b1
 refine bodyPost_ret (results_list (rs := [.cell 4 41, .tmp 5]) rfl (by simp) (.cell w.heap.size 41 _ (0, 0) _ rfl h3 rfl rfl rfl (.tmp .nil))) rfl ?_
 rw [HV.out]
 exact ⟨by first | exact HF.out | (simp; exact HF.out), HB.out.bel3 _ _ _⟩
set_option maxHeartbeats 8000000 in
set_option maxRecDepth 100000 in
theorem rtok_DS (l : List UInt8) (hl : l.length ≤ 1000000) (i : Nat) (c : UInt8) (r : List UInt8) (hA : At l i (c :: r)) (w : World) (hN : LaidN w) (hS : LaidS w) (hd : isDig c.toNat = true) (hK : ¬ ((numTx (c :: r)).length ≤ 200 ∧ plainV (numTx (c :: r)) = true)) (v : Int) (hsp : parseS (numTx (c :: r)) = some v) :
  Calls Tryz.prog 34 #[.string (bs l), .int .i64 i] w fun e w' => RtE i e (tokAt (c :: r)) ∧ Below w.heap.size w w' := by
 have hsz := bs_size l
 have hil := hA.le
 have hlen := hA.len
 have HA := Aside0.mk hA
 have HL := Aside0.mk hl
 have t1 : (0 : Int) ≤ (i : Int) := by omega
 have t2 : (i : Int) ≤ (l.length : Int) := by omega
 have hlt := hA.lt
 have hbhz := hA.byte
 obtain ⟨z, hzz⟩ : ∃ z, c.toNat = z := ⟨_, rfl⟩
 have HZ := Aside0.mk hzz
 rw [hzz] at hbhz
 have hz : ∀ h : i < (bs l).size, ((bs l)[i]'h).toNat = z := fun h => by
  have h1 := hbhz
  unfold bt at h1
  rw [dif_pos (by simpa using h)] at h1
  simp only [Int.toNat_natCast] at h1
  omega
 have hzl : z < 256 := by rw [← hzz]; exact c.toNat_lt
 obtain ⟨kz, hkz⟩ : ∃ k, kindV z = k := ⟨_, rfl⟩
 have HK := Aside0.mk (fun W => kind_any z hzl kz hkz W)
 have HKZ := Aside0.mk hkz
 have t3 : (i : Int) < (l.length : Int) := by omega
 have HB := Aside0.mk (TkB.new1 w)
 have HN := Aside0.mk hN
 have HS := Aside0.mk hS
 clear hN hS
 rw [hzz] at hd
 have hor : isDig c.toNat = true ∨ c.toNat = 46 := Or.inl (by rw [hzz]; exact hd)
 have h0 : isNum0 (c :: r) = true := by unfold isNum0; simp only [hzz, hd]; rfl
 have hlet : isLet z = false := by have h1 : 48 ≤ z ∧ z ≤ 57 := (by simpa [isDig] using hd); rw [isLet_iff]; exact decide_eq_false (by omega)
 have hkv : kz = 48 := by rw [← hkz]; exact (kind48 z).2 hd
 have e97 : ((kz : Int) == 97) = false := by rw [beq_eq_false_iff_ne]; omega
 have e48 : ((kz : Int) == 48) = true := by rw [beq_iff_eq]; omega
 have HV0 := Aside0.mk (tokAt_num c r (by rw [hzz]; exact hlet) hor h0)
 have HBG := numTx_beg r hor
 have hnl := numTx_le (c :: r)
 obtain ⟨tx, htx⟩ : ∃ tx, numTx (c :: r) = tx := ⟨_, rfl⟩
 obtain ⟨n1, hn1⟩ : ∃ n, tx.length = n := ⟨_, rfl⟩
 obtain ⟨b1, hb1⟩ : ∃ b, bs tx = b := ⟨_, rfl⟩
 obtain ⟨j, hj⟩ : ∃ j, i + n1 = j := ⟨_, rfl⟩
 have hrun : runS true 0 (c :: r) = n1 := by rw [← hn1, ← htx]; unfold numTx; rw [List.length_take, Nat.min_eq_left (runS_le _ _ _)]
 rw [htx] at HBG hnl hK hsp
 have hle : tx.length ≤ 1000000 := by omega
 have HNM : Aside0 (∀ W, Calls Tryz.prog 53 #[.string (bs l), .int .i64 i] W fun e w' => e = .returned (.int .i64 j) ∧ Below W.heap.size W w') := ⟨fun W => by rw [← hj, ← hrun]; exact (soundingsref08_number.calls (3 * l.length + 10) (bs l) _ _ W (number_f l HL.out i _ HA.out _ (Nat.le_refl _))).mono fun e w' h => ⟨h.1, h.2.below⟩⟩
 have hx1 : (bs l).extract i j = b1 := by rw [← hb1, bs_mid, HA.out.eq, ← hj, show i + n1 - i = n1 from by omega, ← htx, ← hrun]; rfl
 have HP : Aside0 (∀ W, LaidN W → LaidS W → Calls Tryz.prog 24 #[.string b1] W fun e w' => e = .returned (.tuple #[.int .u64 0, .bool false]) ∧ Below W.heap.size W w') := ⟨fun W h1 h2 => by rw [← hb1]; refine (refParse_any tx HBG hle W h1 h2).mono ?_; rintro e w' ⟨h3, h4⟩; unfold RpE at h3; rw [if_neg hK] at h3; exact ⟨h3, h4⟩⟩
 have HQ : Aside0 (∀ W, Calls Tryz.prog 54 #[.string b1] W fun e w' => e = .returned (.tuple #[.int .i64 v, .bool true]) ∧ Below W.heap.size W w') := ⟨fun W => by rw [← hb1]; have h1 := rparse_all tx hle; rw [hsp] at h1; exact soundingsref07_Parse.calls 5000 (bs tx) _ _ W h1⟩
 have HV : Aside0 (tokAt (c :: r) = some (3, tx, n1)) := ⟨by rw [HV0.out]; unfold numT; rw [h0, if_pos rfl, htx, show numK tx = 3 from by unfold numK; rw [if_neg hK, hsp]; rfl, if_neg (by decide), ← hn1]⟩
 have HF := Aside0.mk (RtE.mk (i := i) (k := 3) (ki := 3) rfl hb1 hj)
 have t11 : (i : Int) ≤ (j : Int) := by omega
 have t12 : (j : Int) ≤ (l.length : Int) := by omega
 clear hA hlt hbhz hzz hkz hlen hlet hkv hil HBG hnl htx hn1 hb1 hj hrun hle hK hor h0 hsp hd
 go_enter Tryz.func34, Tryz.ntmps34
 go_wp2_with fail
 refine (HK.out _).mono ?_
 rintro e_ w_ ⟨rfl, hd_⟩
 have HB_ := Aside0.mk (HB.out.below hd_)
 clear hd_ HB
 have HB := HB_
 clear HB_
 go_wp2_with fail
 refine (HNM.out _).mono ?_
 rintro e_ w_ ⟨rfl, hd_⟩
 have HB_ := Aside0.mk (HB.out.below hd_)
 clear hd_ HB
 have HB := HB_
 clear HB_
 go_wp2_with fail
 refine (HP.out _ (HN.out.below HB.out.bel) (HS.out.below HB.out.bel)).mono ?_
 rintro e_ w_ ⟨rfl, hd_⟩
 have HB_ := Aside0.mk (HB.out.below hd_)
 clear hd_ HB
 have HB := HB_
 clear HB_
 go_wp2_with fail
 refine (HQ.out _).mono ?_
 rintro e_ w_ ⟨rfl, hd_⟩
 have HB_ := Aside0.mk (HB.out.below hd_)
 clear hd_ HB
 have HB := HB_
 clear HB_
 have k0 := HB.out.c0
 have k1 := HB.out.c1
 have k2 := HB.out.c2
 have f0 := HB.out.f0 0
 have f1 := HB.out.f0 1
 have f2 := HB.out.f0 2
 have hltB := heap_lt HB.out.blk
 go_wp2_with fail
 have h3 := HB.out.set3 (.int .i64 3) (.int .i64 i) b1
 refine bodyPost_ret (results_list (rs := [.cell 4 41, .tmp 5]) rfl (by simp) (.cell w.heap.size 41 _ (0, 0) _ rfl h3 rfl rfl rfl (.tmp .nil))) rfl ?_
 rw [HV.out]
 exact ⟨by first | exact HF.out | (simp; exact HF.out), HB.out.bel3 _ _ _⟩
set_option maxHeartbeats 8000000 in
set_option maxRecDepth 100000 in
theorem rtok_DF (l : List UInt8) (hl : l.length ≤ 1000000) (i : Nat) (c : UInt8) (r : List UInt8) (hA : At l i (c :: r)) (w : World) (hN : LaidN w) (hS : LaidS w) (hd : isDig c.toNat = true) (hK : ¬ ((numTx (c :: r)).length ≤ 200 ∧ plainV (numTx (c :: r)) = true)) (hsp : parseS (numTx (c :: r)) = none) :
  Calls Tryz.prog 34 #[.string (bs l), .int .i64 i] w fun e w' => RtE i e (tokAt (c :: r)) ∧ Below w.heap.size w w' := by
 have hsz := bs_size l
 have hil := hA.le
 have hlen := hA.len
 have HA := Aside0.mk hA
 have HL := Aside0.mk hl
 have t1 : (0 : Int) ≤ (i : Int) := by omega
 have t2 : (i : Int) ≤ (l.length : Int) := by omega
 have hlt := hA.lt
 have hbhz := hA.byte
 obtain ⟨z, hzz⟩ : ∃ z, c.toNat = z := ⟨_, rfl⟩
 have HZ := Aside0.mk hzz
 rw [hzz] at hbhz
 have hz : ∀ h : i < (bs l).size, ((bs l)[i]'h).toNat = z := fun h => by
  have h1 := hbhz
  unfold bt at h1
  rw [dif_pos (by simpa using h)] at h1
  simp only [Int.toNat_natCast] at h1
  omega
 have hzl : z < 256 := by rw [← hzz]; exact c.toNat_lt
 obtain ⟨kz, hkz⟩ : ∃ k, kindV z = k := ⟨_, rfl⟩
 have HK := Aside0.mk (fun W => kind_any z hzl kz hkz W)
 have HKZ := Aside0.mk hkz
 have t3 : (i : Int) < (l.length : Int) := by omega
 have HB := Aside0.mk (TkB.new1 w)
 have HN := Aside0.mk hN
 have HS := Aside0.mk hS
 clear hN hS
 rw [hzz] at hd
 have hor : isDig c.toNat = true ∨ c.toNat = 46 := Or.inl (by rw [hzz]; exact hd)
 have h0 : isNum0 (c :: r) = true := by unfold isNum0; simp only [hzz, hd]; rfl
 have hlet : isLet z = false := by have h1 : 48 ≤ z ∧ z ≤ 57 := (by simpa [isDig] using hd); rw [isLet_iff]; exact decide_eq_false (by omega)
 have hkv : kz = 48 := by rw [← hkz]; exact (kind48 z).2 hd
 have e97 : ((kz : Int) == 97) = false := by rw [beq_eq_false_iff_ne]; omega
 have e48 : ((kz : Int) == 48) = true := by rw [beq_iff_eq]; omega
 have HV0 := Aside0.mk (tokAt_num c r (by rw [hzz]; exact hlet) hor h0)
 have HBG := numTx_beg r hor
 have hnl := numTx_le (c :: r)
 obtain ⟨tx, htx⟩ : ∃ tx, numTx (c :: r) = tx := ⟨_, rfl⟩
 obtain ⟨n1, hn1⟩ : ∃ n, tx.length = n := ⟨_, rfl⟩
 obtain ⟨b1, hb1⟩ : ∃ b, bs tx = b := ⟨_, rfl⟩
 obtain ⟨j, hj⟩ : ∃ j, i + n1 = j := ⟨_, rfl⟩
 have hrun : runS true 0 (c :: r) = n1 := by rw [← hn1, ← htx]; unfold numTx; rw [List.length_take, Nat.min_eq_left (runS_le _ _ _)]
 rw [htx] at HBG hnl hK hsp
 have hle : tx.length ≤ 1000000 := by omega
 have HNM : Aside0 (∀ W, Calls Tryz.prog 53 #[.string (bs l), .int .i64 i] W fun e w' => e = .returned (.int .i64 j) ∧ Below W.heap.size W w') := ⟨fun W => by rw [← hj, ← hrun]; exact (soundingsref08_number.calls (3 * l.length + 10) (bs l) _ _ W (number_f l HL.out i _ HA.out _ (Nat.le_refl _))).mono fun e w' h => ⟨h.1, h.2.below⟩⟩
 have hx1 : (bs l).extract i j = b1 := by rw [← hb1, bs_mid, HA.out.eq, ← hj, show i + n1 - i = n1 from by omega, ← htx, ← hrun]; rfl
 have HP : Aside0 (∀ W, LaidN W → LaidS W → Calls Tryz.prog 24 #[.string b1] W fun e w' => e = .returned (.tuple #[.int .u64 0, .bool false]) ∧ Below W.heap.size W w') := ⟨fun W h1 h2 => by rw [← hb1]; refine (refParse_any tx HBG hle W h1 h2).mono ?_; rintro e w' ⟨h3, h4⟩; unfold RpE at h3; rw [if_neg hK] at h3; exact ⟨h3, h4⟩⟩
 have HQ : Aside0 (∀ W, Calls Tryz.prog 54 #[.string b1] W fun e w' => e = .returned (.tuple #[.int .i64 0, .bool false]) ∧ Below W.heap.size W w') := ⟨fun W => by rw [← hb1]; have h1 := rparse_all tx hle; rw [hsp] at h1; exact soundingsref07_Parse.calls 5000 (bs tx) _ _ W h1⟩
 have HV : Aside0 (tokAt (c :: r) = none) := ⟨by rw [HV0.out]; unfold numT; rw [h0, if_pos rfl, htx, show numK tx = 0 from by unfold numK; rw [if_neg hK, hsp]; rfl, if_pos rfl]⟩
 have t11 : (i : Int) ≤ (j : Int) := by omega
 have t12 : (j : Int) ≤ (l.length : Int) := by omega
 clear hA hlt hbhz hzz hkz hlen hlet hkv hil HBG hnl htx hn1 hb1 hj hrun hle hK hor h0 hsp hd
 go_enter Tryz.func34, Tryz.ntmps34
 go_wp2_with fail
 refine (HK.out _).mono ?_
 rintro e_ w_ ⟨rfl, hd_⟩
 have HB_ := Aside0.mk (HB.out.below hd_)
 clear hd_ HB
 have HB := HB_
 clear HB_
 go_wp2_with fail
 refine (HNM.out _).mono ?_
 rintro e_ w_ ⟨rfl, hd_⟩
 have HB_ := Aside0.mk (HB.out.below hd_)
 clear hd_ HB
 have HB := HB_
 clear HB_
 go_wp2_with fail
 refine (HP.out _ (HN.out.below HB.out.bel) (HS.out.below HB.out.bel)).mono ?_
 rintro e_ w_ ⟨rfl, hd_⟩
 have HB_ := Aside0.mk (HB.out.below hd_)
 clear hd_ HB
 have HB := HB_
 clear HB_
 go_wp2_with fail
 refine (HQ.out _).mono ?_
 rintro e_ w_ ⟨rfl, hd_⟩
 have HB_ := Aside0.mk (HB.out.below hd_)
 clear hd_ HB
 have HB := HB_
 clear HB_
 have k0 := HB.out.c0
 have k1 := HB.out.c1
 have k2 := HB.out.c2
 have f0 := HB.out.f0 0
 have f1 := HB.out.f0 1
 have f2 := HB.out.f0 2
 have hltB := heap_lt HB.out.blk
 go_wp2_with fail
 have h3 := HB.out.set3 (.int .i64 0) (.int .i64 0) ⟨#[]⟩
 refine bodyPost_ret (results_list (rs := [.cell 4 41, .tmp 5]) rfl (by simp) (.cell w.heap.size 41 _ (0, 0) _ rfl h3 rfl rfl rfl (.tmp .nil))) rfl ?_
 rw [HV.out]
 exact ⟨⟨0, 0, ⟨#[]⟩, by first | rfl | simp⟩, HB.out.bel3 _ _ _⟩
set_option maxHeartbeats 8000000 in
set_option maxRecDepth 100000 in
theorem rtok_EN (l : List UInt8) (hl : l.length ≤ 1000000) (i : Nat) (c : UInt8) (r : List UInt8) (hA : At l i (c :: r)) (w : World) (hN : LaidN w) (hS : LaidS w) (h46 : c.toNat = 46) (d : UInt8) (r1 : List UInt8) (hr : r = d :: r1) (hdd : isDig d.toNat = true) (hK : (numTx (c :: r)).length ≤ 200 ∧ plainV (numTx (c :: r)) = true) :
  Calls Tryz.prog 34 #[.string (bs l), .int .i64 i] w fun e w' => RtE i e (tokAt (c :: r)) ∧ Below w.heap.size w w' := by
 have hsz := bs_size l
 have hil := hA.le
 have hlen := hA.len
 have HA := Aside0.mk hA
 have HL := Aside0.mk hl
 have t1 : (0 : Int) ≤ (i : Int) := by omega
 have t2 : (i : Int) ≤ (l.length : Int) := by omega
 have hlt := hA.lt
 have hbhz := hA.byte
 obtain ⟨z, hzz⟩ : ∃ z, c.toNat = z := ⟨_, rfl⟩
 have HZ := Aside0.mk hzz
 rw [hzz] at hbhz
 have hz : ∀ h : i < (bs l).size, ((bs l)[i]'h).toNat = z := fun h => by
  have h1 := hbhz
  unfold bt at h1
  rw [dif_pos (by simpa using h)] at h1
  simp only [Int.toNat_natCast] at h1
  omega
 have hzl : z < 256 := by rw [← hzz]; exact c.toNat_lt
 obtain ⟨kz, hkz⟩ : ∃ k, kindV z = k := ⟨_, rfl⟩
 have HK := Aside0.mk (fun W => kind_any z hzl kz hkz W)
 have HKZ := Aside0.mk hkz
 have t3 : (i : Int) < (l.length : Int) := by omega
 have HB := Aside0.mk (TkB.new1 w)
 have HN := Aside0.mk hN
 have HS := Aside0.mk hS
 clear hN hS
 subst hr
 have hlt1 := hA.next.lt
 have hbhz1 := hA.next.byte
 obtain ⟨z1, hzz1⟩ : ∃ z, d.toNat = z := ⟨_, rfl⟩
 have HZ1 := Aside0.mk hzz1
 rw [hzz1] at hbhz1
 have hz1 : ∀ h : i + 1 < (bs l).size, ((bs l)[i + 1]'h).toNat = z1 := fun h => by
  have h1 := hbhz1
  unfold bt at h1
  rw [dif_pos (by simpa using h)] at h1
  simp only [Int.toNat_natCast] at h1
  omega
 have hzl1 : z1 < 256 := by rw [← hzz1]; exact d.toNat_lt
 obtain ⟨kz1, hkz1⟩ : ∃ k, kindV z1 = k := ⟨_, rfl⟩
 have HK1 := Aside0.mk (fun W => kind_any z1 hzl1 kz1 hkz1 W)
 have HKZ1 := Aside0.mk hkz1
 rw [hzz1] at hdd
 have hor : isDig c.toNat = true ∨ c.toNat = 46 := Or.inr h46
 have h0 : isNum0 (c :: d :: r1) = true := by unfold isNum0; simp only [h46, hzz1, hdd]; rfl
 have hlet : isLet z = false := by rw [isLet_iff]; exact decide_eq_false (by omega)
 have hkv : kz = 46 := by rw [← hkz]; exact (kind_lo z hzl).2.2 (by omega)
 have hkv1 : kz1 = 48 := by rw [← hkz1]; exact (kind48 z1).2 hdd
 have e97 : ((kz : Int) == 97) = false := by rw [beq_eq_false_iff_ne]; omega
 have e48 : ((kz : Int) == 48) = false := by rw [beq_eq_false_iff_ne]; omega
 have e46 : ((kz : Int) == 46) = true := by rw [beq_iff_eq]; omega
 have a48 : ((kz1 : Int) == 48) = true := by rw [beq_iff_eq]; omega
 have t8 : (i : Int) + 1 < (l.length : Int) := by omega
 have t9 : (0 : Int) ≤ (i : Int) + 1 := by omega
 have t10 : ((i : Int) + 1).toNat = i + 1 := by omega
 have HV0 := Aside0.mk (tokAt_num c (d :: r1) (by rw [hzz]; exact hlet) hor h0)
 have HBG := numTx_beg (d :: r1) hor
 have hnl := numTx_le (c :: d :: r1)
 obtain ⟨tx, htx⟩ : ∃ tx, numTx (c :: d :: r1) = tx := ⟨_, rfl⟩
 obtain ⟨n1, hn1⟩ : ∃ n, tx.length = n := ⟨_, rfl⟩
 obtain ⟨b1, hb1⟩ : ∃ b, bs tx = b := ⟨_, rfl⟩
 obtain ⟨j, hj⟩ : ∃ j, i + n1 = j := ⟨_, rfl⟩
 have hrun : runS true 0 (c :: d :: r1) = n1 := by rw [← hn1, ← htx]; unfold numTx; rw [List.length_take, Nat.min_eq_left (runS_le _ _ _)]
 rw [htx] at HBG hnl hK
 have hle : tx.length ≤ 1000000 := by omega
 have HNM : Aside0 (∀ W, Calls Tryz.prog 53 #[.string (bs l), .int .i64 i] W fun e w' => e = .returned (.int .i64 j) ∧ Below W.heap.size W w') := ⟨fun W => by rw [← hj, ← hrun]; exact (soundingsref08_number.calls (3 * l.length + 10) (bs l) _ _ W (number_f l HL.out i _ HA.out _ (Nat.le_refl _))).mono fun e w' h => ⟨h.1, h.2.below⟩⟩
 have hx1 : (bs l).extract i j = b1 := by rw [← hb1, bs_mid, HA.out.eq, ← hj, show i + n1 - i = n1 from by omega, ← htx, ← hrun]; rfl
 have HP : Aside0 (∀ W, LaidN W → LaidS W → Calls Tryz.prog 24 #[.string b1] W fun e w' => (∃ b : Int, e = .returned (.tuple #[.int .u64 b, .bool true])) ∧ Below W.heap.size W w') := ⟨fun W h1 h2 => by rw [← hb1]; refine (refParse_any tx HBG hle W h1 h2).mono ?_; rintro e w' ⟨h3, h4⟩; unfold RpE at h3; rw [if_pos hK] at h3; exact ⟨h3, h4⟩⟩
 have HV : Aside0 (tokAt (c :: d :: r1) = some (2, tx, n1)) := ⟨by rw [HV0.out]; unfold numT; rw [h0, if_pos rfl, htx, show numK tx = 2 from if_pos hK, if_neg (by decide), ← hn1]⟩
 have HF := Aside0.mk (RtE.mk (i := i) (k := 2) (ki := 2) rfl hb1 hj)
 have t11 : (i : Int) ≤ (j : Int) := by omega
 have t12 : (j : Int) ≤ (l.length : Int) := by omega
 clear hA hlt hbhz hzz hkz hlen hlet hkv hil HBG hnl htx hn1 hb1 hj hrun hle hK hor h0 hdd hkv1 hzz1 hkz1 hbhz1 hlt1 h46
 go_enter Tryz.func34, Tryz.ntmps34
 go_wp2_with fail
 refine (HK.out _).mono ?_
 rintro e_ w_ ⟨rfl, hd_⟩
 have HB_ := Aside0.mk (HB.out.below hd_)
 clear hd_ HB
 have HB := HB_
 clear HB_
 go_wp2_with fail
 refine (HK1.out _).mono ?_
 rintro e_ w_ ⟨rfl, hd_⟩
 have HB_ := Aside0.mk (HB.out.below hd_)
 clear hd_ HB
 have HB := HB_
 clear HB_
 go_wp2_with fail
 refine (HNM.out _).mono ?_
 rintro e_ w_ ⟨rfl, hd_⟩
 have HB_ := Aside0.mk (HB.out.below hd_)
 clear hd_ HB
 have HB := HB_
 clear HB_
 go_wp2_with fail
 refine (HP.out _ (HN.out.below HB.out.bel) (HS.out.below HB.out.bel)).mono ?_
 rintro e_ w_ ⟨⟨bv, rfl⟩, hd_⟩
 have HB_ := Aside0.mk (HB.out.below hd_)
 clear hd_ HB
 have HB := HB_
 clear HB_
 have k0 := HB.out.c0
 have k1 := HB.out.c1
 have k2 := HB.out.c2
 have f0 := HB.out.f0 0
 have f1 := HB.out.f0 1
 have f2 := HB.out.f0 2
 have hltB := heap_lt HB.out.blk
 go_wp2_with fail
 have h3 := HB.out.set3 (.int .i64 2) (.int .i64 i) b1
 refine bodyPost_ret (results_list (rs := [.cell 4 41, .tmp 5]) rfl (by simp) (.cell w.heap.size 41 _ (0, 0) _ rfl h3 rfl rfl rfl (.tmp .nil))) rfl ?_
 rw [HV.out]
 exact ⟨by first | exact HF.out | (simp; exact HF.out), HB.out.bel3 _ _ _⟩
set_option maxHeartbeats 8000000 in
set_option maxRecDepth 100000 in
theorem rtok_ES (l : List UInt8) (hl : l.length ≤ 1000000) (i : Nat) (c : UInt8) (r : List UInt8) (hA : At l i (c :: r)) (w : World) (hN : LaidN w) (hS : LaidS w) (h46 : c.toNat = 46) (d : UInt8) (r1 : List UInt8) (hr : r = d :: r1) (hdd : isDig d.toNat = true) (hK : ¬ ((numTx (c :: r)).length ≤ 200 ∧ plainV (numTx (c :: r)) = true)) (v : Int) (hsp : parseS (numTx (c :: r)) = some v) :
  Calls Tryz.prog 34 #[.string (bs l), .int .i64 i] w fun e w' => RtE i e (tokAt (c :: r)) ∧ Below w.heap.size w w' := by
 have hsz := bs_size l
 have hil := hA.le
 have hlen := hA.len
 have HA := Aside0.mk hA
 have HL := Aside0.mk hl
 have t1 : (0 : Int) ≤ (i : Int) := by omega
 have t2 : (i : Int) ≤ (l.length : Int) := by omega
 have hlt := hA.lt
 have hbhz := hA.byte
 obtain ⟨z, hzz⟩ : ∃ z, c.toNat = z := ⟨_, rfl⟩
 have HZ := Aside0.mk hzz
 rw [hzz] at hbhz
 have hz : ∀ h : i < (bs l).size, ((bs l)[i]'h).toNat = z := fun h => by
  have h1 := hbhz
  unfold bt at h1
  rw [dif_pos (by simpa using h)] at h1
  simp only [Int.toNat_natCast] at h1
  omega
 have hzl : z < 256 := by rw [← hzz]; exact c.toNat_lt
 obtain ⟨kz, hkz⟩ : ∃ k, kindV z = k := ⟨_, rfl⟩
 have HK := Aside0.mk (fun W => kind_any z hzl kz hkz W)
 have HKZ := Aside0.mk hkz
 have t3 : (i : Int) < (l.length : Int) := by omega
 have HB := Aside0.mk (TkB.new1 w)
 have HN := Aside0.mk hN
 have HS := Aside0.mk hS
 clear hN hS
 subst hr
 have hlt1 := hA.next.lt
 have hbhz1 := hA.next.byte
 obtain ⟨z1, hzz1⟩ : ∃ z, d.toNat = z := ⟨_, rfl⟩
 have HZ1 := Aside0.mk hzz1
 rw [hzz1] at hbhz1
 have hz1 : ∀ h : i + 1 < (bs l).size, ((bs l)[i + 1]'h).toNat = z1 := fun h => by
  have h1 := hbhz1
  unfold bt at h1
  rw [dif_pos (by simpa using h)] at h1
  simp only [Int.toNat_natCast] at h1
  omega
 have hzl1 : z1 < 256 := by rw [← hzz1]; exact d.toNat_lt
 obtain ⟨kz1, hkz1⟩ : ∃ k, kindV z1 = k := ⟨_, rfl⟩
 have HK1 := Aside0.mk (fun W => kind_any z1 hzl1 kz1 hkz1 W)
 have HKZ1 := Aside0.mk hkz1
 rw [hzz1] at hdd
 have hor : isDig c.toNat = true ∨ c.toNat = 46 := Or.inr h46
 have h0 : isNum0 (c :: d :: r1) = true := by unfold isNum0; simp only [h46, hzz1, hdd]; rfl
 have hlet : isLet z = false := by rw [isLet_iff]; exact decide_eq_false (by omega)
 have hkv : kz = 46 := by rw [← hkz]; exact (kind_lo z hzl).2.2 (by omega)
 have hkv1 : kz1 = 48 := by rw [← hkz1]; exact (kind48 z1).2 hdd
 have e97 : ((kz : Int) == 97) = false := by rw [beq_eq_false_iff_ne]; omega
 have e48 : ((kz : Int) == 48) = false := by rw [beq_eq_false_iff_ne]; omega
 have e46 : ((kz : Int) == 46) = true := by rw [beq_iff_eq]; omega
 have a48 : ((kz1 : Int) == 48) = true := by rw [beq_iff_eq]; omega
 have t8 : (i : Int) + 1 < (l.length : Int) := by omega
 have t9 : (0 : Int) ≤ (i : Int) + 1 := by omega
 have t10 : ((i : Int) + 1).toNat = i + 1 := by omega
 have HV0 := Aside0.mk (tokAt_num c (d :: r1) (by rw [hzz]; exact hlet) hor h0)
 have HBG := numTx_beg (d :: r1) hor
 have hnl := numTx_le (c :: d :: r1)
 obtain ⟨tx, htx⟩ : ∃ tx, numTx (c :: d :: r1) = tx := ⟨_, rfl⟩
 obtain ⟨n1, hn1⟩ : ∃ n, tx.length = n := ⟨_, rfl⟩
 obtain ⟨b1, hb1⟩ : ∃ b, bs tx = b := ⟨_, rfl⟩
 obtain ⟨j, hj⟩ : ∃ j, i + n1 = j := ⟨_, rfl⟩
 have hrun : runS true 0 (c :: d :: r1) = n1 := by rw [← hn1, ← htx]; unfold numTx; rw [List.length_take, Nat.min_eq_left (runS_le _ _ _)]
 rw [htx] at HBG hnl hK hsp
 have hle : tx.length ≤ 1000000 := by omega
 have HNM : Aside0 (∀ W, Calls Tryz.prog 53 #[.string (bs l), .int .i64 i] W fun e w' => e = .returned (.int .i64 j) ∧ Below W.heap.size W w') := ⟨fun W => by rw [← hj, ← hrun]; exact (soundingsref08_number.calls (3 * l.length + 10) (bs l) _ _ W (number_f l HL.out i _ HA.out _ (Nat.le_refl _))).mono fun e w' h => ⟨h.1, h.2.below⟩⟩
 have hx1 : (bs l).extract i j = b1 := by rw [← hb1, bs_mid, HA.out.eq, ← hj, show i + n1 - i = n1 from by omega, ← htx, ← hrun]; rfl
 have HP : Aside0 (∀ W, LaidN W → LaidS W → Calls Tryz.prog 24 #[.string b1] W fun e w' => e = .returned (.tuple #[.int .u64 0, .bool false]) ∧ Below W.heap.size W w') := ⟨fun W h1 h2 => by rw [← hb1]; refine (refParse_any tx HBG hle W h1 h2).mono ?_; rintro e w' ⟨h3, h4⟩; unfold RpE at h3; rw [if_neg hK] at h3; exact ⟨h3, h4⟩⟩
 have HQ : Aside0 (∀ W, Calls Tryz.prog 54 #[.string b1] W fun e w' => e = .returned (.tuple #[.int .i64 v, .bool true]) ∧ Below W.heap.size W w') := ⟨fun W => by rw [← hb1]; have h1 := rparse_all tx hle; rw [hsp] at h1; exact soundingsref07_Parse.calls 5000 (bs tx) _ _ W h1⟩
 have HV : Aside0 (tokAt (c :: d :: r1) = some (3, tx, n1)) := ⟨by rw [HV0.out]; unfold numT; rw [h0, if_pos rfl, htx, show numK tx = 3 from by unfold numK; rw [if_neg hK, hsp]; rfl, if_neg (by decide), ← hn1]⟩
 have HF := Aside0.mk (RtE.mk (i := i) (k := 3) (ki := 3) rfl hb1 hj)
 have t11 : (i : Int) ≤ (j : Int) := by omega
 have t12 : (j : Int) ≤ (l.length : Int) := by omega
 clear hA hlt hbhz hzz hkz hlen hlet hkv hil HBG hnl htx hn1 hb1 hj hrun hle hK hor h0 hsp hdd hkv1 hzz1 hkz1 hbhz1 hlt1 h46
 go_enter Tryz.func34, Tryz.ntmps34
 go_wp2_with fail
 refine (HK.out _).mono ?_
 rintro e_ w_ ⟨rfl, hd_⟩
 have HB_ := Aside0.mk (HB.out.below hd_)
 clear hd_ HB
 have HB := HB_
 clear HB_
 go_wp2_with fail
 refine (HK1.out _).mono ?_
 rintro e_ w_ ⟨rfl, hd_⟩
 have HB_ := Aside0.mk (HB.out.below hd_)
 clear hd_ HB
 have HB := HB_
 clear HB_
 go_wp2_with fail
 refine (HNM.out _).mono ?_
 rintro e_ w_ ⟨rfl, hd_⟩
 have HB_ := Aside0.mk (HB.out.below hd_)
 clear hd_ HB
 have HB := HB_
 clear HB_
 go_wp2_with fail
 refine (HP.out _ (HN.out.below HB.out.bel) (HS.out.below HB.out.bel)).mono ?_
 rintro e_ w_ ⟨rfl, hd_⟩
 have HB_ := Aside0.mk (HB.out.below hd_)
 clear hd_ HB
 have HB := HB_
 clear HB_
 go_wp2_with fail
 refine (HQ.out _).mono ?_
 rintro e_ w_ ⟨rfl, hd_⟩
 have HB_ := Aside0.mk (HB.out.below hd_)
 clear hd_ HB
 have HB := HB_
 clear HB_
 have k0 := HB.out.c0
 have k1 := HB.out.c1
 have k2 := HB.out.c2
 have f0 := HB.out.f0 0
 have f1 := HB.out.f0 1
 have f2 := HB.out.f0 2
 have hltB := heap_lt HB.out.blk
 go_wp2_with fail
 have h3 := HB.out.set3 (.int .i64 3) (.int .i64 i) b1
 refine bodyPost_ret (results_list (rs := [.cell 4 41, .tmp 5]) rfl (by simp) (.cell w.heap.size 41 _ (0, 0) _ rfl h3 rfl rfl rfl (.tmp .nil))) rfl ?_
 rw [HV.out]
 exact ⟨by first | exact HF.out | (simp; exact HF.out), HB.out.bel3 _ _ _⟩
set_option maxHeartbeats 8000000 in
set_option maxRecDepth 100000 in
theorem rtok_EF (l : List UInt8) (hl : l.length ≤ 1000000) (i : Nat) (c : UInt8) (r : List UInt8) (hA : At l i (c :: r)) (w : World) (hN : LaidN w) (hS : LaidS w) (h46 : c.toNat = 46) (d : UInt8) (r1 : List UInt8) (hr : r = d :: r1) (hdd : isDig d.toNat = true) (hK : ¬ ((numTx (c :: r)).length ≤ 200 ∧ plainV (numTx (c :: r)) = true)) (hsp : parseS (numTx (c :: r)) = none) :
  Calls Tryz.prog 34 #[.string (bs l), .int .i64 i] w fun e w' => RtE i e (tokAt (c :: r)) ∧ Below w.heap.size w w' := by
 have hsz := bs_size l
 have hil := hA.le
 have hlen := hA.len
 have HA := Aside0.mk hA
 have HL := Aside0.mk hl
 have t1 : (0 : Int) ≤ (i : Int) := by omega
 have t2 : (i : Int) ≤ (l.length : Int) := by omega
 have hlt := hA.lt
 have hbhz := hA.byte
 obtain ⟨z, hzz⟩ : ∃ z, c.toNat = z := ⟨_, rfl⟩
 have HZ := Aside0.mk hzz
 rw [hzz] at hbhz
 have hz : ∀ h : i < (bs l).size, ((bs l)[i]'h).toNat = z := fun h => by
  have h1 := hbhz
  unfold bt at h1
  rw [dif_pos (by simpa using h)] at h1
  simp only [Int.toNat_natCast] at h1
  omega
 have hzl : z < 256 := by rw [← hzz]; exact c.toNat_lt
 obtain ⟨kz, hkz⟩ : ∃ k, kindV z = k := ⟨_, rfl⟩
 have HK := Aside0.mk (fun W => kind_any z hzl kz hkz W)
 have HKZ := Aside0.mk hkz
 have t3 : (i : Int) < (l.length : Int) := by omega
 have HB := Aside0.mk (TkB.new1 w)
 have HN := Aside0.mk hN
 have HS := Aside0.mk hS
 clear hN hS
 subst hr
 have hlt1 := hA.next.lt
 have hbhz1 := hA.next.byte
 obtain ⟨z1, hzz1⟩ : ∃ z, d.toNat = z := ⟨_, rfl⟩
 have HZ1 := Aside0.mk hzz1
 rw [hzz1] at hbhz1
 have hz1 : ∀ h : i + 1 < (bs l).size, ((bs l)[i + 1]'h).toNat = z1 := fun h => by
  have h1 := hbhz1
  unfold bt at h1
  rw [dif_pos (by simpa using h)] at h1
  simp only [Int.toNat_natCast] at h1
  omega
 have hzl1 : z1 < 256 := by rw [← hzz1]; exact d.toNat_lt
 obtain ⟨kz1, hkz1⟩ : ∃ k, kindV z1 = k := ⟨_, rfl⟩
 have HK1 := Aside0.mk (fun W => kind_any z1 hzl1 kz1 hkz1 W)
 have HKZ1 := Aside0.mk hkz1
 rw [hzz1] at hdd
 have hor : isDig c.toNat = true ∨ c.toNat = 46 := Or.inr h46
 have h0 : isNum0 (c :: d :: r1) = true := by unfold isNum0; simp only [h46, hzz1, hdd]; rfl
 have hlet : isLet z = false := by rw [isLet_iff]; exact decide_eq_false (by omega)
 have hkv : kz = 46 := by rw [← hkz]; exact (kind_lo z hzl).2.2 (by omega)
 have hkv1 : kz1 = 48 := by rw [← hkz1]; exact (kind48 z1).2 hdd
 have e97 : ((kz : Int) == 97) = false := by rw [beq_eq_false_iff_ne]; omega
 have e48 : ((kz : Int) == 48) = false := by rw [beq_eq_false_iff_ne]; omega
 have e46 : ((kz : Int) == 46) = true := by rw [beq_iff_eq]; omega
 have a48 : ((kz1 : Int) == 48) = true := by rw [beq_iff_eq]; omega
 have t8 : (i : Int) + 1 < (l.length : Int) := by omega
 have t9 : (0 : Int) ≤ (i : Int) + 1 := by omega
 have t10 : ((i : Int) + 1).toNat = i + 1 := by omega
 have HV0 := Aside0.mk (tokAt_num c (d :: r1) (by rw [hzz]; exact hlet) hor h0)
 have HBG := numTx_beg (d :: r1) hor
 have hnl := numTx_le (c :: d :: r1)
 obtain ⟨tx, htx⟩ : ∃ tx, numTx (c :: d :: r1) = tx := ⟨_, rfl⟩
 obtain ⟨n1, hn1⟩ : ∃ n, tx.length = n := ⟨_, rfl⟩
 obtain ⟨b1, hb1⟩ : ∃ b, bs tx = b := ⟨_, rfl⟩
 obtain ⟨j, hj⟩ : ∃ j, i + n1 = j := ⟨_, rfl⟩
 have hrun : runS true 0 (c :: d :: r1) = n1 := by rw [← hn1, ← htx]; unfold numTx; rw [List.length_take, Nat.min_eq_left (runS_le _ _ _)]
 rw [htx] at HBG hnl hK hsp
 have hle : tx.length ≤ 1000000 := by omega
 have HNM : Aside0 (∀ W, Calls Tryz.prog 53 #[.string (bs l), .int .i64 i] W fun e w' => e = .returned (.int .i64 j) ∧ Below W.heap.size W w') := ⟨fun W => by rw [← hj, ← hrun]; exact (soundingsref08_number.calls (3 * l.length + 10) (bs l) _ _ W (number_f l HL.out i _ HA.out _ (Nat.le_refl _))).mono fun e w' h => ⟨h.1, h.2.below⟩⟩
 have hx1 : (bs l).extract i j = b1 := by rw [← hb1, bs_mid, HA.out.eq, ← hj, show i + n1 - i = n1 from by omega, ← htx, ← hrun]; rfl
 have HP : Aside0 (∀ W, LaidN W → LaidS W → Calls Tryz.prog 24 #[.string b1] W fun e w' => e = .returned (.tuple #[.int .u64 0, .bool false]) ∧ Below W.heap.size W w') := ⟨fun W h1 h2 => by rw [← hb1]; refine (refParse_any tx HBG hle W h1 h2).mono ?_; rintro e w' ⟨h3, h4⟩; unfold RpE at h3; rw [if_neg hK] at h3; exact ⟨h3, h4⟩⟩
 have HQ : Aside0 (∀ W, Calls Tryz.prog 54 #[.string b1] W fun e w' => e = .returned (.tuple #[.int .i64 0, .bool false]) ∧ Below W.heap.size W w') := ⟨fun W => by rw [← hb1]; have h1 := rparse_all tx hle; rw [hsp] at h1; exact soundingsref07_Parse.calls 5000 (bs tx) _ _ W h1⟩
 have HV : Aside0 (tokAt (c :: d :: r1) = none) := ⟨by rw [HV0.out]; unfold numT; rw [h0, if_pos rfl, htx, show numK tx = 0 from by unfold numK; rw [if_neg hK, hsp]; rfl, if_pos rfl]⟩
 have t11 : (i : Int) ≤ (j : Int) := by omega
 have t12 : (j : Int) ≤ (l.length : Int) := by omega
 clear hA hlt hbhz hzz hkz hlen hlet hkv hil HBG hnl htx hn1 hb1 hj hrun hle hK hor h0 hsp hdd hkv1 hzz1 hkz1 hbhz1 hlt1 h46
 go_enter Tryz.func34, Tryz.ntmps34
 go_wp2_with fail
 refine (HK.out _).mono ?_
 rintro e_ w_ ⟨rfl, hd_⟩
 have HB_ := Aside0.mk (HB.out.below hd_)
 clear hd_ HB
 have HB := HB_
 clear HB_
 go_wp2_with fail
 refine (HK1.out _).mono ?_
 rintro e_ w_ ⟨rfl, hd_⟩
 have HB_ := Aside0.mk (HB.out.below hd_)
 clear hd_ HB
 have HB := HB_
 clear HB_
 go_wp2_with fail
 refine (HNM.out _).mono ?_
 rintro e_ w_ ⟨rfl, hd_⟩
 have HB_ := Aside0.mk (HB.out.below hd_)
 clear hd_ HB
 have HB := HB_
 clear HB_
 go_wp2_with fail
 refine (HP.out _ (HN.out.below HB.out.bel) (HS.out.below HB.out.bel)).mono ?_
 rintro e_ w_ ⟨rfl, hd_⟩
 have HB_ := Aside0.mk (HB.out.below hd_)
 clear hd_ HB
 have HB := HB_
 clear HB_
 go_wp2_with fail
 refine (HQ.out _).mono ?_
 rintro e_ w_ ⟨rfl, hd_⟩
 have HB_ := Aside0.mk (HB.out.below hd_)
 clear hd_ HB
 have HB := HB_
 clear HB_
 have k0 := HB.out.c0
 have k1 := HB.out.c1
 have k2 := HB.out.c2
 have f0 := HB.out.f0 0
 have f1 := HB.out.f0 1
 have f2 := HB.out.f0 2
 have hltB := heap_lt HB.out.blk
 go_wp2_with fail
 have h3 := HB.out.set3 (.int .i64 0) (.int .i64 0) ⟨#[]⟩
 refine bodyPost_ret (results_list (rs := [.cell 4 41, .tmp 5]) rfl (by simp) (.cell w.heap.size 41 _ (0, 0) _ rfl h3 rfl rfl rfl (.tmp .nil))) rfl ?_
 rw [HV.out]
 exact ⟨⟨0, 0, ⟨#[]⟩, by first | rfl | simp⟩, HB.out.bel3 _ _ _⟩
set_option maxHeartbeats 8000000 in
set_option maxRecDepth 100000 in
theorem rtok_qQ (l : List UInt8) (hl : l.length ≤ 1000000) (i : Nat) (c : UInt8) (r : List UInt8) (hA : At l i (c :: r)) (w : World) (h34 : c.toNat = 34) (T : List UInt8) (n : Nat) (hq : quotT (c :: r).length (quotR r []) = some (4, T, n)) :
  Calls Tryz.prog 34 #[.string (bs l), .int .i64 i] w fun e w' => RtE i e (tokAt (c :: r)) ∧ Below w.heap.size w w' := by
 have hsz := bs_size l
 have hil := hA.le
 have hlen := hA.len
 have HA := Aside0.mk hA
 have HL := Aside0.mk hl
 have t1 : (0 : Int) ≤ (i : Int) := by omega
 have t2 : (i : Int) ≤ (l.length : Int) := by omega
 have hlt := hA.lt
 have hbhz := hA.byte
 obtain ⟨z, hzz⟩ : ∃ z, c.toNat = z := ⟨_, rfl⟩
 have HZ := Aside0.mk hzz
 rw [hzz] at hbhz
 have hz : ∀ h : i < (bs l).size, ((bs l)[i]'h).toNat = z := fun h => by
  have h1 := hbhz
  unfold bt at h1
  rw [dif_pos (by simpa using h)] at h1
  simp only [Int.toNat_natCast] at h1
  omega
 have hzl : z < 256 := by rw [← hzz]; exact c.toNat_lt
 obtain ⟨kz, hkz⟩ : ∃ k, kindV z = k := ⟨_, rfl⟩
 have HK := Aside0.mk (fun W => kind_any z hzl kz hkz W)
 have HKZ := Aside0.mk hkz
 have t3 : (i : Int) < (l.length : Int) := by omega
 have HB := Aside0.mk (TkB.new1 w)
 have HQT := Aside0.mk (rquoted_any l hl i c r hA)
 have HV : Aside0 (tokAt (c :: r) = some (4, T, n)) := ⟨by rw [tokAt_quot c r h34, hq]⟩
 have hT : rqV l.length (quotR r []) = (T, i + n) := by
  unfold quotT at hq
  unfold rqV
  cases hr : quotR r [] with
  | none => rw [hr] at hq; cases hq
  | some x =>
   obtain ⟨o, r2⟩ := x
   rw [hr] at hq
   simp only at hq ⊢
   have hlr := quotR_len _ r [] o r2 (Nat.le_refl _) hr
   split at hq
   ·simp only [Option.some.injEq, Prod.mk.injEq] at hq
    rw [if_pos (by assumption), ← hq.2.1, ← hq.2.2]
    simp only [Prod.mk.injEq, true_and]
    simp only [List.length_cons] at hlen ⊢
    omega
   ·cases hq
 rw [hT] at HQT
 obtain ⟨b1, hb1⟩ : ∃ b, bs T = b := ⟨_, rfl⟩
 obtain ⟨j, hj⟩ : ∃ j, i + n = j := ⟨_, rfl⟩
 simp only at HQT
 rw [hb1, hj] at HQT
 have HF := Aside0.mk (RtE.mk (i := i) (k := 4) (ki := 4) rfl hb1 hj)
 have hkv : kz = 34 := by rw [← hkz]; exact (kind_lo z hzl).1.2 (by omega)
 have e97 : ((kz : Int) == 97) = false := by rw [beq_eq_false_iff_ne]; omega
 have e48 : ((kz : Int) == 48) = false := by rw [beq_eq_false_iff_ne]; omega
 have e46 : ((kz : Int) == 46) = false := by rw [beq_eq_false_iff_ne]; omega
 have e34 : ((kz : Int) == 34) = true := by rw [beq_iff_eq]; omega
 clear hA hlt hbhz hzz hkz hlen hkv hil hT hb1 hq h34 hj
 go_enter Tryz.func34, Tryz.ntmps34
 go_wp2_with fail
 refine (HK.out _).mono ?_
 rintro e_ w_ ⟨rfl, hd_⟩
 have HB_ := Aside0.mk (HB.out.below hd_)
 clear hd_ HB
 have HB := HB_
 clear HB_
 go_wp2_with fail
 refine (HQT.out _).mono ?_
 rintro e_ w_ ⟨rfl, hd_⟩
 have HB_ := Aside0.mk (HB.out.below hd_)
 clear hd_ HB
 have HB := HB_
 clear HB_
 have k0 := HB.out.c0
 have k1 := HB.out.c1
 have k2 := HB.out.c2
 have f0 := HB.out.f0 0
 have f1 := HB.out.f0 1
 have f2 := HB.out.f0 2
 have hltB := heap_lt HB.out.blk
 go_wp2_with fail
 have h3 := HB.out.set3 (.int .i64 4) (.int .i64 i) b1
 refine bodyPost_ret (results_list (rs := [.cell 4 41, .tmp 5]) rfl (by simp) (.cell w.heap.size 41 _ (0, 0) _ rfl h3 rfl rfl rfl (.tmp .nil))) rfl ?_
 rw [HV.out]
 exact ⟨by first | exact HF.out | (simp; exact HF.out), HB.out.bel3 _ _ _⟩
set_option maxHeartbeats 8000000 in
set_option maxRecDepth 100000 in
theorem rtok_qF (l : List UInt8) (hl : l.length ≤ 1000000) (i : Nat) (c : UInt8) (r : List UInt8) (hA : At l i (c :: r)) (w : World) (h34 : c.toNat = 34) (hq : quotT (c :: r).length (quotR r []) = none) :
  Calls Tryz.prog 34 #[.string (bs l), .int .i64 i] w fun e w' => RtE i e (tokAt (c :: r)) ∧ Below w.heap.size w w' := by
 have hsz := bs_size l
 have hil := hA.le
 have hlen := hA.len
 have HA := Aside0.mk hA
 have HL := Aside0.mk hl
 have t1 : (0 : Int) ≤ (i : Int) := by omega
 have t2 : (i : Int) ≤ (l.length : Int) := by omega
 have hlt := hA.lt
 have hbhz := hA.byte
 obtain ⟨z, hzz⟩ : ∃ z, c.toNat = z := ⟨_, rfl⟩
 have HZ := Aside0.mk hzz
 rw [hzz] at hbhz
 have hz : ∀ h : i < (bs l).size, ((bs l)[i]'h).toNat = z := fun h => by
  have h1 := hbhz
  unfold bt at h1
  rw [dif_pos (by simpa using h)] at h1
  simp only [Int.toNat_natCast] at h1
  omega
 have hzl : z < 256 := by rw [← hzz]; exact c.toNat_lt
 obtain ⟨kz, hkz⟩ : ∃ k, kindV z = k := ⟨_, rfl⟩
 have HK := Aside0.mk (fun W => kind_any z hzl kz hkz W)
 have HKZ := Aside0.mk hkz
 have t3 : (i : Int) < (l.length : Int) := by omega
 have HB := Aside0.mk (TkB.new1 w)
 have HQT := Aside0.mk (rquoted_any l hl i c r hA)
 have HV : Aside0 (tokAt (c :: r) = none) := ⟨by rw [tokAt_quot c r h34, hq]⟩
 have hT : rqV l.length (quotR r []) = ([], 0) := by
  unfold quotT at hq
  unfold rqV
  cases hr : quotR r [] with
  | none => rfl
  | some x =>
   obtain ⟨o, r2⟩ := x
   rw [hr] at hq
   simp only at hq ⊢
   split at hq
   ·cases hq
   ·rw [if_neg (by assumption)]
 rw [hT] at HQT
 simp only at HQT
 obtain ⟨b1, hb1⟩ : ∃ b, bs ([] : List UInt8) = b := ⟨_, rfl⟩
 rw [hb1] at HQT
 have HF : Aside0 (RtE i (.returned (.tuple #[.agg #[.int .i64 4, .int .i64 i, .string b1], .int .i64 0])) none) := ⟨⟨4, i, b1, rfl⟩⟩
 have HQT2 : Aside0 (∀ W, Calls Tryz.prog 55 #[.string (bs l), .int .i64 i] W fun e w' => e = .returned (.tuple #[.string b1, .int .i64 0]) ∧ Below W.heap.size W w') := HQT
 clear HQT
 have HQT := HQT2
 clear HQT2
 have hkv : kz = 34 := by rw [← hkz]; exact (kind_lo z hzl).1.2 (by omega)
 have e97 : ((kz : Int) == 97) = false := by rw [beq_eq_false_iff_ne]; omega
 have e48 : ((kz : Int) == 48) = false := by rw [beq_eq_false_iff_ne]; omega
 have e46 : ((kz : Int) == 46) = false := by rw [beq_eq_false_iff_ne]; omega
 have e34 : ((kz : Int) == 34) = true := by rw [beq_iff_eq]; omega
 clear hA hlt hbhz hzz hkz hlen hkv hil hT hb1 hq h34
 go_enter Tryz.func34, Tryz.ntmps34
 go_wp2_with fail
 refine (HK.out _).mono ?_
 rintro e_ w_ ⟨rfl, hd_⟩
 have HB_ := Aside0.mk (HB.out.below hd_)
 clear hd_ HB
 have HB := HB_
 clear HB_
 go_wp2_with fail
 refine (HQT.out _).mono ?_
 rintro e_ w_ ⟨rfl, hd_⟩
 have HB_ := Aside0.mk (HB.out.below hd_)
 clear hd_ HB
 have HB := HB_
 clear HB_
 have k0 := HB.out.c0
 have k1 := HB.out.c1
 have k2 := HB.out.c2
 have f0 := HB.out.f0 0
 have f1 := HB.out.f0 1
 have f2 := HB.out.f0 2
 have hltB := heap_lt HB.out.blk
 go_wp2_with fail
 have h3 := HB.out.set3 (.int .i64 4) (.int .i64 i) b1
 refine bodyPost_ret (results_list (rs := [.cell 4 41, .tmp 5]) rfl (by simp) (.cell w.heap.size 41 _ (0, 0) _ rfl h3 rfl rfl rfl (.tmp .nil))) rfl ?_
 rw [HV.out]
 exact ⟨by first | exact HF.out | (simp; exact HF.out), HB.out.bel3 _ _ _⟩
set_option maxHeartbeats 8000000 in
set_option maxRecDepth 100000 in
theorem rtok_CG (l : List UInt8) (hl : l.length ≤ 1000000) (i : Nat) (c : UInt8) (r : List UInt8) (hA : At l i (c :: r)) (w : World) (hlet : isLet c.toNat = false) (hdig : isDig c.toNat = false) (h46 : c.toNat ≠ 46) (h34 : c.toNat ≠ 34) (n1 : Nat) (hn1 : signN (c :: r) = n1) (hn0 : n1 ≠ 0) :
  Calls Tryz.prog 34 #[.string (bs l), .int .i64 i] w fun e w' => RtE i e (tokAt (c :: r)) ∧ Below w.heap.size w w' := by
 have hsz := bs_size l
 have hil := hA.le
 have hlen := hA.len
 have HA := Aside0.mk hA
 have HL := Aside0.mk hl
 have t1 : (0 : Int) ≤ (i : Int) := by omega
 have t2 : (i : Int) ≤ (l.length : Int) := by omega
 have hlt := hA.lt
 have hbhz := hA.byte
 obtain ⟨z, hzz⟩ : ∃ z, c.toNat = z := ⟨_, rfl⟩
 have HZ := Aside0.mk hzz
 rw [hzz] at hbhz
 have hz : ∀ h : i < (bs l).size, ((bs l)[i]'h).toNat = z := fun h => by
  have h1 := hbhz
  unfold bt at h1
  rw [dif_pos (by simpa using h)] at h1
  simp only [Int.toNat_natCast] at h1
  omega
 have hzl : z < 256 := by rw [← hzz]; exact c.toNat_lt
 obtain ⟨kz, hkz⟩ : ∃ k, kindV z = k := ⟨_, rfl⟩
 have HK := Aside0.mk (fun W => kind_any z hzl kz hkz W)
 have HKZ := Aside0.mk hkz
 have t3 : (i : Int) < (l.length : Int) := by omega
 have HB := Aside0.mk (TkB.new1 w)
 have h0 : isNum0 (c :: r) = false := by unfold isNum0; simp only [hdig, beq_eq_false_iff_ne.2 h46]; rfl
 have e97 : ((kz : Int) == 97) = false := by rw [beq_eq_false_iff_ne]; intro h; have h2 := (kind97 z).1 (by omega); rw [← hzz, hlet] at h2; cases h2
 have e48 : ((kz : Int) == 48) = false := by rw [beq_eq_false_iff_ne]; intro h; have h2 := (kind48 z).1 (by omega); rw [← hzz, hdig] at h2; cases h2
 have e46 : ((kz : Int) == 46) = false := by rw [beq_eq_false_iff_ne]; intro h; have h2 := (kind_lo z hzl).2.1 (by omega); omega
 have e34 : ((kz : Int) == 34) = false := by rw [beq_eq_false_iff_ne]; intro h; have h2 := (kind_lo z hzl).1.1 (by omega); omega
 have HV0 := Aside0.mk (tokAt_sign c r hlet h0 h34)
 have HSG : Aside0 (∀ W, Calls Tryz.prog 56 #[.string (bs l), .int .i64 i] W fun e w' => e = .returned (.int .i64 n1) ∧ Below W.heap.size W w') := ⟨fun W => (soundingsref08_sign.calls 1 (bs l) _ _ W (by have h1 := sign_f l hl i c r hA 0; rw [hn1] at h1; exact h1)).mono fun e w' h => ⟨h.1, h.2.below⟩⟩
 have hsl := signN_le (c :: r)
 rw [hn1] at hsl HV0
 rw [if_neg hn0] at HV0
 have HV := HV0
 have eN : ((n1 : Int) == 0) = false := by rw [beq_eq_false_iff_ne]; omega
 obtain ⟨b1, hb1⟩ : ∃ b, bs ((c :: r).take n1) = b := ⟨_, rfl⟩
 obtain ⟨j, hj⟩ : ∃ j, i + n1 = j := ⟨_, rfl⟩
 have hx1 : (bs l).extract i j = b1 := by rw [← hb1, bs_mid, HA.out.eq, ← hj, show i + n1 - i = n1 from by omega]
 have HF := Aside0.mk (RtE.mk (i := i) (k := 5) (ki := 5) rfl hb1 hj)
 have t13 : (i : Int) + (n1 : Int) = (j : Int) := by omega
 have t11 : (i : Int) ≤ (j : Int) := by omega
 have t12 : (j : Int) ≤ (l.length : Int) := by omega
 have t14 : (j : Int) ≤ 1000000 := by omega
 have t15 := j_w t13 t14 t1 t11
 clear hA hlt hbhz hzz hkz hlen hil h0 hn1 hlet hdig h46 h34 hn0 hsl hb1 hj HV0
 go_enter Tryz.func34, Tryz.ntmps34
 go_wp2_with fail
 refine (HK.out _).mono ?_
 rintro e_ w_ ⟨rfl, hd_⟩
 have HB_ := Aside0.mk (HB.out.below hd_)
 clear hd_ HB
 have HB := HB_
 clear HB_
 go_wp2_with fail
 refine (HSG.out _).mono ?_
 rintro e_ w_ ⟨rfl, hd_⟩
 have HB_ := Aside0.mk (HB.out.below hd_)
 clear hd_ HB
 have HB := HB_
 clear HB_
 have k0 := HB.out.c0
 have k1 := HB.out.c1
 have k2 := HB.out.c2
 have f0 := HB.out.f0 0
 have f1 := HB.out.f0 1
 have f2 := HB.out.f0 2
 have hltB := heap_lt HB.out.blk
 go_wp2_with fail
 have h3 := HB.out.set3 (.int .i64 5) (.int .i64 i) b1
 refine bodyPost_ret (results_list (rs := [.cell 4 41, .tmp 5]) rfl (by simp) (.cell w.heap.size 41 _ (0, 0) _ rfl h3 rfl rfl rfl (.tmp .nil))) rfl ?_
 rw [HV.out]
 exact ⟨by first | exact HF.out | (simp; exact HF.out), HB.out.bel3 _ _ _⟩
set_option maxHeartbeats 8000000 in
set_option maxRecDepth 100000 in
theorem rtok_CF (l : List UInt8) (hl : l.length ≤ 1000000) (i : Nat) (c : UInt8) (r : List UInt8) (hA : At l i (c :: r)) (w : World) (hlet : isLet c.toNat = false) (hdig : isDig c.toNat = false) (h46 : c.toNat ≠ 46) (h34 : c.toNat ≠ 34) (hn1 : signN (c :: r) = 0) :
  Calls Tryz.prog 34 #[.string (bs l), .int .i64 i] w fun e w' => RtE i e (tokAt (c :: r)) ∧ Below w.heap.size w w' := by
 have hsz := bs_size l
 have hil := hA.le
 have hlen := hA.len
 have HA := Aside0.mk hA
 have HL := Aside0.mk hl
 have t1 : (0 : Int) ≤ (i : Int) := by omega
 have t2 : (i : Int) ≤ (l.length : Int) := by omega
 have hlt := hA.lt
 have hbhz := hA.byte
 obtain ⟨z, hzz⟩ : ∃ z, c.toNat = z := ⟨_, rfl⟩
 have HZ := Aside0.mk hzz
 rw [hzz] at hbhz
 have hz : ∀ h : i < (bs l).size, ((bs l)[i]'h).toNat = z := fun h => by
  have h1 := hbhz
  unfold bt at h1
  rw [dif_pos (by simpa using h)] at h1
  simp only [Int.toNat_natCast] at h1
  omega
 have hzl : z < 256 := by rw [← hzz]; exact c.toNat_lt
 obtain ⟨kz, hkz⟩ : ∃ k, kindV z = k := ⟨_, rfl⟩
 have HK := Aside0.mk (fun W => kind_any z hzl kz hkz W)
 have HKZ := Aside0.mk hkz
 have t3 : (i : Int) < (l.length : Int) := by omega
 have HB := Aside0.mk (TkB.new1 w)
 have h0 : isNum0 (c :: r) = false := by unfold isNum0; simp only [hdig, beq_eq_false_iff_ne.2 h46]; rfl
 have e97 : ((kz : Int) == 97) = false := by rw [beq_eq_false_iff_ne]; intro h; have h2 := (kind97 z).1 (by omega); rw [← hzz, hlet] at h2; cases h2
 have e48 : ((kz : Int) == 48) = false := by rw [beq_eq_false_iff_ne]; intro h; have h2 := (kind48 z).1 (by omega); rw [← hzz, hdig] at h2; cases h2
 have e46 : ((kz : Int) == 46) = false := by rw [beq_eq_false_iff_ne]; intro h; have h2 := (kind_lo z hzl).2.1 (by omega); omega
 have e34 : ((kz : Int) == 34) = false := by rw [beq_eq_false_iff_ne]; intro h; have h2 := (kind_lo z hzl).1.1 (by omega); omega
 have HV0 := Aside0.mk (tokAt_sign c r hlet h0 h34)
 have HSG : Aside0 (∀ W, Calls Tryz.prog 56 #[.string (bs l), .int .i64 i] W fun e w' => e = .returned (.int .i64 0) ∧ Below W.heap.size W w') := ⟨fun W => (soundingsref08_sign.calls 1 (bs l) _ _ W (by have h1 := sign_f l hl i c r hA 0; rw [hn1] at h1; exact h1)).mono fun e w' h => ⟨h.1, h.2.below⟩⟩
 have HV : Aside0 (tokAt (c :: r) = none) := ⟨by rw [HV0.out, if_pos hn1]⟩
 clear hA hlt hbhz hzz hkz hlen hil h0 hn1 hlet hdig h46 h34 HV0
 go_enter Tryz.func34, Tryz.ntmps34
 go_wp2_with fail
 refine (HK.out _).mono ?_
 rintro e_ w_ ⟨rfl, hd_⟩
 have HB_ := Aside0.mk (HB.out.below hd_)
 clear hd_ HB
 have HB := HB_
 clear HB_
 go_wp2_with fail
 refine (HSG.out _).mono ?_
 rintro e_ w_ ⟨rfl, hd_⟩
 have HB_ := Aside0.mk (HB.out.below hd_)
 clear hd_ HB
 have HB := HB_
 clear HB_
 have k0 := HB.out.c0
 have k1 := HB.out.c1
 have k2 := HB.out.c2
 have f0 := HB.out.f0 0
 have f1 := HB.out.f0 1
 have f2 := HB.out.f0 2
 have hltB := heap_lt HB.out.blk
 go_wp2_with fail
 have h3 := HB.out.set3 (.int .i64 0) (.int .i64 0) ⟨#[]⟩
 refine bodyPost_ret (results_list (rs := [.cell 4 41, .tmp 5]) rfl (by simp) (.cell w.heap.size 41 _ (0, 0) _ rfl h3 rfl rfl rfl (.tmp .nil))) rfl ?_
 rw [HV.out]
 exact ⟨⟨0, 0, ⟨#[]⟩, by first | rfl | simp⟩, HB.out.bel3 _ _ _⟩
set_option maxHeartbeats 8000000 in
set_option maxRecDepth 100000 in
theorem rtok_PG (l : List UInt8) (hl : l.length ≤ 1000000) (i : Nat) (c : UInt8) (r : List UInt8) (hA : At l i (c :: r)) (w : World) (h46 : c.toNat = 46) (hr : r = []) (n1 : Nat) (hn1 : signN (c :: r) = n1) (hn0 : n1 ≠ 0) :
  Calls Tryz.prog 34 #[.string (bs l), .int .i64 i] w fun e w' => RtE i e (tokAt (c :: r)) ∧ Below w.heap.size w w' := by
 have hsz := bs_size l
 have hil := hA.le
 have hlen := hA.len
 have HA := Aside0.mk hA
 have HL := Aside0.mk hl
 have t1 : (0 : Int) ≤ (i : Int) := by omega
 have t2 : (i : Int) ≤ (l.length : Int) := by omega
 have hlt := hA.lt
 have hbhz := hA.byte
 obtain ⟨z, hzz⟩ : ∃ z, c.toNat = z := ⟨_, rfl⟩
 have HZ := Aside0.mk hzz
 rw [hzz] at hbhz
 have hz : ∀ h : i < (bs l).size, ((bs l)[i]'h).toNat = z := fun h => by
  have h1 := hbhz
  unfold bt at h1
  rw [dif_pos (by simpa using h)] at h1
  simp only [Int.toNat_natCast] at h1
  omega
 have hzl : z < 256 := by rw [← hzz]; exact c.toNat_lt
 obtain ⟨kz, hkz⟩ : ∃ k, kindV z = k := ⟨_, rfl⟩
 have HK := Aside0.mk (fun W => kind_any z hzl kz hkz W)
 have HKZ := Aside0.mk hkz
 have t3 : (i : Int) < (l.length : Int) := by omega
 have HB := Aside0.mk (TkB.new1 w)
 subst hr
 have hlet : isLet c.toNat = false := by rw [isLet_iff]; exact decide_eq_false (by omega)
 have h34 : c.toNat ≠ 34 := by omega
 have h0 : isNum0 (c :: []) = false := by unfold isNum0; simp only [h46]; rfl
 have hkv : kz = 46 := by rw [← hkz]; exact (kind_lo z hzl).2.2 (by omega)
 have e97 : ((kz : Int) == 97) = false := by rw [beq_eq_false_iff_ne]; omega
 have e48 : ((kz : Int) == 48) = false := by rw [beq_eq_false_iff_ne]; omega
 have e46 : ((kz : Int) == 46) = true := by rw [beq_iff_eq]; omega
 have e34 : ((kz : Int) == 34) = false := by rw [beq_eq_false_iff_ne]; omega
 have hjl := hA.next.nil
 have t8 : ((i : Int) + 1 < (l.length : Int)) = False := eq_false (by omega)
 clear hjl
 have HV0 := Aside0.mk (tokAt_sign c [] hlet h0 h34)
 have HSG : Aside0 (∀ W, Calls Tryz.prog 56 #[.string (bs l), .int .i64 i] W fun e w' => e = .returned (.int .i64 n1) ∧ Below W.heap.size W w') := ⟨fun W => (soundingsref08_sign.calls 1 (bs l) _ _ W (by have h1 := sign_f l hl i c [] hA 0; rw [hn1] at h1; exact h1)).mono fun e w' h => ⟨h.1, h.2.below⟩⟩
 have hsl := signN_le (c :: [])
 rw [hn1] at hsl HV0
 rw [if_neg hn0] at HV0
 have HV := HV0
 have eN : ((n1 : Int) == 0) = false := by rw [beq_eq_false_iff_ne]; omega
 obtain ⟨b1, hb1⟩ : ∃ b, bs ((c :: []).take n1) = b := ⟨_, rfl⟩
 obtain ⟨j, hj⟩ : ∃ j, i + n1 = j := ⟨_, rfl⟩
 have hx1 : (bs l).extract i j = b1 := by rw [← hb1, bs_mid, HA.out.eq, ← hj, show i + n1 - i = n1 from by omega]
 have HF := Aside0.mk (RtE.mk (i := i) (k := 5) (ki := 5) rfl hb1 hj)
 have t13 : (i : Int) + (n1 : Int) = (j : Int) := by omega
 have t11 : (i : Int) ≤ (j : Int) := by omega
 have t12 : (j : Int) ≤ (l.length : Int) := by omega
 have t14 : (j : Int) ≤ 1000000 := by omega
 have t15 := j_w t13 t14 t1 t11
 clear hA hlt hbhz hzz hkz hlen hil h0 hn1 hlet h34 hkv h46 hn0 hsl hb1 hj HV0
 go_enter Tryz.func34, Tryz.ntmps34
 go_wp2_with fail
 refine (HK.out _).mono ?_
 rintro e_ w_ ⟨rfl, hd_⟩
 have HB_ := Aside0.mk (HB.out.below hd_)
 clear hd_ HB
 have HB := HB_
 clear HB_
 go_wp2_with fail
 refine (HSG.out _).mono ?_
 rintro e_ w_ ⟨rfl, hd_⟩
 have HB_ := Aside0.mk (HB.out.below hd_)
 clear hd_ HB
 have HB := HB_
 clear HB_
 have k0 := HB.out.c0
 have k1 := HB.out.c1
 have k2 := HB.out.c2
 have f0 := HB.out.f0 0
 have f1 := HB.out.f0 1
 have f2 := HB.out.f0 2
 have hltB := heap_lt HB.out.blk
 go_wp2_with fail
 have h3 := HB.out.set3 (.int .i64 5) (.int .i64 i) b1
 refine bodyPost_ret (results_list (rs := [.cell 4 41, .tmp 5]) rfl (by simp) (.cell w.heap.size 41 _ (0, 0) _ rfl h3 rfl rfl rfl (.tmp .nil))) rfl ?_
 rw [HV.out]
 exact ⟨by first | exact HF.out | (simp; exact HF.out), HB.out.bel3 _ _ _⟩
set_option maxHeartbeats 8000000 in
set_option maxRecDepth 100000 in
theorem rtok_PF (l : List UInt8) (hl : l.length ≤ 1000000) (i : Nat) (c : UInt8) (r : List UInt8) (hA : At l i (c :: r)) (w : World) (h46 : c.toNat = 46) (hr : r = []) (hn1 : signN (c :: r) = 0) :
  Calls Tryz.prog 34 #[.string (bs l), .int .i64 i] w fun e w' => RtE i e (tokAt (c :: r)) ∧ Below w.heap.size w w' := by
 have hsz := bs_size l
 have hil := hA.le
 have hlen := hA.len
 have HA := Aside0.mk hA
 have HL := Aside0.mk hl
 have t1 : (0 : Int) ≤ (i : Int) := by omega
 have t2 : (i : Int) ≤ (l.length : Int) := by omega
 have hlt := hA.lt
 have hbhz := hA.byte
 obtain ⟨z, hzz⟩ : ∃ z, c.toNat = z := ⟨_, rfl⟩
 have HZ := Aside0.mk hzz
 rw [hzz] at hbhz
 have hz : ∀ h : i < (bs l).size, ((bs l)[i]'h).toNat = z := fun h => by
  have h1 := hbhz
  unfold bt at h1
  rw [dif_pos (by simpa using h)] at h1
  simp only [Int.toNat_natCast] at h1
  omega
 have hzl : z < 256 := by rw [← hzz]; exact c.toNat_lt
 obtain ⟨kz, hkz⟩ : ∃ k, kindV z = k := ⟨_, rfl⟩
 have HK := Aside0.mk (fun W => kind_any z hzl kz hkz W)
 have HKZ := Aside0.mk hkz
 have t3 : (i : Int) < (l.length : Int) := by omega
 have HB := Aside0.mk (TkB.new1 w)
 subst hr
 have hlet : isLet c.toNat = false := by rw [isLet_iff]; exact decide_eq_false (by omega)
 have h34 : c.toNat ≠ 34 := by omega
 have h0 : isNum0 (c :: []) = false := by unfold isNum0; simp only [h46]; rfl
 have hkv : kz = 46 := by rw [← hkz]; exact (kind_lo z hzl).2.2 (by omega)
 have e97 : ((kz : Int) == 97) = false := by rw [beq_eq_false_iff_ne]; omega
 have e48 : ((kz : Int) == 48) = false := by rw [beq_eq_false_iff_ne]; omega
 have e46 : ((kz : Int) == 46) = true := by rw [beq_iff_eq]; omega
 have e34 : ((kz : Int) == 34) = false := by rw [beq_eq_false_iff_ne]; omega
 have hjl := hA.next.nil
 have t8 : ((i : Int) + 1 < (l.length : Int)) = False := eq_false (by omega)
 clear hjl
 have HV0 := Aside0.mk (tokAt_sign c [] hlet h0 h34)
 have HSG : Aside0 (∀ W, Calls Tryz.prog 56 #[.string (bs l), .int .i64 i] W fun e w' => e = .returned (.int .i64 0) ∧ Below W.heap.size W w') := ⟨fun W => (soundingsref08_sign.calls 1 (bs l) _ _ W (by have h1 := sign_f l hl i c [] hA 0; rw [hn1] at h1; exact h1)).mono fun e w' h => ⟨h.1, h.2.below⟩⟩
 have HV : Aside0 (tokAt (c :: []) = none) := ⟨by rw [HV0.out, if_pos hn1]⟩
 clear hA hlt hbhz hzz hkz hlen hil h0 hn1 hlet h34 hkv h46 HV0
 go_enter Tryz.func34, Tryz.ntmps34
 go_wp2_with fail
 refine (HK.out _).mono ?_
 rintro e_ w_ ⟨rfl, hd_⟩
 have HB_ := Aside0.mk (HB.out.below hd_)
 clear hd_ HB
 have HB := HB_
 clear HB_
 go_wp2_with fail
 refine (HSG.out _).mono ?_
 rintro e_ w_ ⟨rfl, hd_⟩
 have HB_ := Aside0.mk (HB.out.below hd_)
 clear hd_ HB
 have HB := HB_
 clear HB_
 have k0 := HB.out.c0
 have k1 := HB.out.c1
 have k2 := HB.out.c2
 have f0 := HB.out.f0 0
 have f1 := HB.out.f0 1
 have f2 := HB.out.f0 2
 have hltB := heap_lt HB.out.blk
 go_wp2_with fail
 have h3 := HB.out.set3 (.int .i64 0) (.int .i64 0) ⟨#[]⟩
 refine bodyPost_ret (results_list (rs := [.cell 4 41, .tmp 5]) rfl (by simp) (.cell w.heap.size 41 _ (0, 0) _ rfl h3 rfl rfl rfl (.tmp .nil))) rfl ?_
 rw [HV.out]
 exact ⟨⟨0, 0, ⟨#[]⟩, by first | rfl | simp⟩, HB.out.bel3 _ _ _⟩
set_option maxHeartbeats 8000000 in
set_option maxRecDepth 100000 in
theorem rtok_RG (l : List UInt8) (hl : l.length ≤ 1000000) (i : Nat) (c : UInt8) (r : List UInt8) (hA : At l i (c :: r)) (w : World) (h46 : c.toNat = 46) (d : UInt8) (r1 : List UInt8) (hr : r = d :: r1) (hdd : isDig d.toNat = false) (n1 : Nat) (hn1 : signN (c :: r) = n1) (hn0 : n1 ≠ 0) :
  Calls Tryz.prog 34 #[.string (bs l), .int .i64 i] w fun e w' => RtE i e (tokAt (c :: r)) ∧ Below w.heap.size w w' := by
 have hsz := bs_size l
 have hil := hA.le
 have hlen := hA.len
 have HA := Aside0.mk hA
 have HL := Aside0.mk hl
 have t1 : (0 : Int) ≤ (i : Int) := by omega
 have t2 : (i : Int) ≤ (l.length : Int) := by omega
 have hlt := hA.lt
 have hbhz := hA.byte
 obtain ⟨z, hzz⟩ : ∃ z, c.toNat = z := ⟨_, rfl⟩
 have HZ := Aside0.mk hzz
 rw [hzz] at hbhz
 have hz : ∀ h : i < (bs l).size, ((bs l)[i]'h).toNat = z := fun h => by
  have h1 := hbhz
  unfold bt at h1
  rw [dif_pos (by simpa using h)] at h1
  simp only [Int.toNat_natCast] at h1
  omega
 have hzl : z < 256 := by rw [← hzz]; exact c.toNat_lt
 obtain ⟨kz, hkz⟩ : ∃ k, kindV z = k := ⟨_, rfl⟩
 have HK := Aside0.mk (fun W => kind_any z hzl kz hkz W)
 have HKZ := Aside0.mk hkz
 have t3 : (i : Int) < (l.length : Int) := by omega
 have HB := Aside0.mk (TkB.new1 w)
 subst hr
 have hlt1 := hA.next.lt
 have hbhz1 := hA.next.byte
 obtain ⟨z1, hzz1⟩ : ∃ z, d.toNat = z := ⟨_, rfl⟩
 have HZ1 := Aside0.mk hzz1
 rw [hzz1] at hbhz1
 have hz1 : ∀ h : i + 1 < (bs l).size, ((bs l)[i + 1]'h).toNat = z1 := fun h => by
  have h1 := hbhz1
  unfold bt at h1
  rw [dif_pos (by simpa using h)] at h1
  simp only [Int.toNat_natCast] at h1
  omega
 have hzl1 : z1 < 256 := by rw [← hzz1]; exact d.toNat_lt
 obtain ⟨kz1, hkz1⟩ : ∃ k, kindV z1 = k := ⟨_, rfl⟩
 have HK1 := Aside0.mk (fun W => kind_any z1 hzl1 kz1 hkz1 W)
 have HKZ1 := Aside0.mk hkz1
 have hlet : isLet c.toNat = false := by rw [isLet_iff]; exact decide_eq_false (by omega)
 have h34 : c.toNat ≠ 34 := by omega
 have h0 : isNum0 (c :: d :: r1) = false := by unfold isNum0; simp only [h46, hdd]; rfl
 have hkv : kz = 46 := by rw [← hkz]; exact (kind_lo z hzl).2.2 (by omega)
 have e97 : ((kz : Int) == 97) = false := by rw [beq_eq_false_iff_ne]; omega
 have e48 : ((kz : Int) == 48) = false := by rw [beq_eq_false_iff_ne]; omega
 have e46 : ((kz : Int) == 46) = true := by rw [beq_iff_eq]; omega
 have e34 : ((kz : Int) == 34) = false := by rw [beq_eq_false_iff_ne]; omega
 rw [hzz1] at hdd
 have a48 : ((kz1 : Int) == 48) = false := by rw [beq_eq_false_iff_ne]; intro h; have h2 := (kind48 z1).1 (by omega); rw [hdd] at h2; cases h2
 have t8 : (i : Int) + 1 < (l.length : Int) := by omega
 have t9 : (0 : Int) ≤ (i : Int) + 1 := by omega
 have t10 : ((i : Int) + 1).toNat = i + 1 := by omega
 have HV0 := Aside0.mk (tokAt_sign c (d :: r1) hlet h0 h34)
 have HSG : Aside0 (∀ W, Calls Tryz.prog 56 #[.string (bs l), .int .i64 i] W fun e w' => e = .returned (.int .i64 n1) ∧ Below W.heap.size W w') := ⟨fun W => (soundingsref08_sign.calls 1 (bs l) _ _ W (by have h1 := sign_f l hl i c (d :: r1) hA 0; rw [hn1] at h1; exact h1)).mono fun e w' h => ⟨h.1, h.2.below⟩⟩
 have hsl := signN_le (c :: d :: r1)
 rw [hn1] at hsl HV0
 rw [if_neg hn0] at HV0
 have HV := HV0
 have eN : ((n1 : Int) == 0) = false := by rw [beq_eq_false_iff_ne]; omega
 obtain ⟨b1, hb1⟩ : ∃ b, bs ((c :: d :: r1).take n1) = b := ⟨_, rfl⟩
 obtain ⟨j, hj⟩ : ∃ j, i + n1 = j := ⟨_, rfl⟩
 have hx1 : (bs l).extract i j = b1 := by rw [← hb1, bs_mid, HA.out.eq, ← hj, show i + n1 - i = n1 from by omega]
 have HF := Aside0.mk (RtE.mk (i := i) (k := 5) (ki := 5) rfl hb1 hj)
 have t13 : (i : Int) + (n1 : Int) = (j : Int) := by omega
 have t11 : (i : Int) ≤ (j : Int) := by omega
 have t12 : (j : Int) ≤ (l.length : Int) := by omega
 have t14 : (j : Int) ≤ 1000000 := by omega
 have t15 := j_w t13 t14 t1 t11
 clear hA hlt hbhz hzz hkz hlen hil h0 hn1 hlet h34 hkv h46 hdd hzz1 hkz1 hbhz1 hlt1 hn0 hsl hb1 hj HV0
 go_enter Tryz.func34, Tryz.ntmps34
 go_wp2_with fail
 refine (HK.out _).mono ?_
 rintro e_ w_ ⟨rfl, hd_⟩
 have HB_ := Aside0.mk (HB.out.below hd_)
 clear hd_ HB
 have HB := HB_
 clear HB_
 go_wp2_with fail
 refine (HK1.out _).mono ?_
 rintro e_ w_ ⟨rfl, hd_⟩
 have HB_ := Aside0.mk (HB.out.below hd_)
 clear hd_ HB
 have HB := HB_
 clear HB_
 go_wp2_with fail
 refine (HSG.out _).mono ?_
 rintro e_ w_ ⟨rfl, hd_⟩
 have HB_ := Aside0.mk (HB.out.below hd_)
 clear hd_ HB
 have HB := HB_
 clear HB_
 have k0 := HB.out.c0
 have k1 := HB.out.c1
 have k2 := HB.out.c2
 have f0 := HB.out.f0 0
 have f1 := HB.out.f0 1
 have f2 := HB.out.f0 2
 have hltB := heap_lt HB.out.blk
 go_wp2_with fail
 have h3 := HB.out.set3 (.int .i64 5) (.int .i64 i) b1
 refine bodyPost_ret (results_list (rs := [.cell 4 41, .tmp 5]) rfl (by simp) (.cell w.heap.size 41 _ (0, 0) _ rfl h3 rfl rfl rfl (.tmp .nil))) rfl ?_
 rw [HV.out]
 exact ⟨by first | exact HF.out | (simp; exact HF.out), HB.out.bel3 _ _ _⟩
set_option maxHeartbeats 8000000 in
set_option maxRecDepth 100000 in
theorem rtok_RF (l : List UInt8) (hl : l.length ≤ 1000000) (i : Nat) (c : UInt8) (r : List UInt8) (hA : At l i (c :: r)) (w : World) (h46 : c.toNat = 46) (d : UInt8) (r1 : List UInt8) (hr : r = d :: r1) (hdd : isDig d.toNat = false) (hn1 : signN (c :: r) = 0) :
  Calls Tryz.prog 34 #[.string (bs l), .int .i64 i] w fun e w' => RtE i e (tokAt (c :: r)) ∧ Below w.heap.size w w' := by
 have hsz := bs_size l
 have hil := hA.le
 have hlen := hA.len
 have HA := Aside0.mk hA
 have HL := Aside0.mk hl
 have t1 : (0 : Int) ≤ (i : Int) := by omega
 have t2 : (i : Int) ≤ (l.length : Int) := by omega
 have hlt := hA.lt
 have hbhz := hA.byte
 obtain ⟨z, hzz⟩ : ∃ z, c.toNat = z := ⟨_, rfl⟩
 have HZ := Aside0.mk hzz
 rw [hzz] at hbhz
 have hz : ∀ h : i < (bs l).size, ((bs l)[i]'h).toNat = z := fun h => by
  have h1 := hbhz
  unfold bt at h1
  rw [dif_pos (by simpa using h)] at h1
  simp only [Int.toNat_natCast] at h1
  omega
 have hzl : z < 256 := by rw [← hzz]; exact c.toNat_lt
 obtain ⟨kz, hkz⟩ : ∃ k, kindV z = k := ⟨_, rfl⟩
 have HK := Aside0.mk (fun W => kind_any z hzl kz hkz W)
 have HKZ := Aside0.mk hkz
 have t3 : (i : Int) < (l.length : Int) := by omega
 have HB := Aside0.mk (TkB.new1 w)
 subst hr
 have hlt1 := hA.next.lt
 have hbhz1 := hA.next.byte
 obtain ⟨z1, hzz1⟩ : ∃ z, d.toNat = z := ⟨_, rfl⟩
 have HZ1 := Aside0.mk hzz1
 rw [hzz1] at hbhz1
 have hz1 : ∀ h : i + 1 < (bs l).size, ((bs l)[i + 1]'h).toNat = z1 := fun h => by
  have h1 := hbhz1
  unfold bt at h1
  rw [dif_pos (by simpa using h)] at h1
  simp only [Int.toNat_natCast] at h1
  omega
 have hzl1 : z1 < 256 := by rw [← hzz1]; exact d.toNat_lt
 obtain ⟨kz1, hkz1⟩ : ∃ k, kindV z1 = k := ⟨_, rfl⟩
 have HK1 := Aside0.mk (fun W => kind_any z1 hzl1 kz1 hkz1 W)
 have HKZ1 := Aside0.mk hkz1
 have hlet : isLet c.toNat = false := by rw [isLet_iff]; exact decide_eq_false (by omega)
 have h34 : c.toNat ≠ 34 := by omega
 have h0 : isNum0 (c :: d :: r1) = false := by unfold isNum0; simp only [h46, hdd]; rfl
 have hkv : kz = 46 := by rw [← hkz]; exact (kind_lo z hzl).2.2 (by omega)
 have e97 : ((kz : Int) == 97) = false := by rw [beq_eq_false_iff_ne]; omega
 have e48 : ((kz : Int) == 48) = false := by rw [beq_eq_false_iff_ne]; omega
 have e46 : ((kz : Int) == 46) = true := by rw [beq_iff_eq]; omega
 have e34 : ((kz : Int) == 34) = false := by rw [beq_eq_false_iff_ne]; omega
 rw [hzz1] at hdd
 have a48 : ((kz1 : Int) == 48) = false := by rw [beq_eq_false_iff_ne]; intro h; have h2 := (kind48 z1).1 (by omega); rw [hdd] at h2; cases h2
 have t8 : (i : Int) + 1 < (l.length : Int) := by omega
 have t9 : (0 : Int) ≤ (i : Int) + 1 := by omega
 have t10 : ((i : Int) + 1).toNat = i + 1 := by omega
 have HV0 := Aside0.mk (tokAt_sign c (d :: r1) hlet h0 h34)
 have HSG : Aside0 (∀ W, Calls Tryz.prog 56 #[.string (bs l), .int .i64 i] W fun e w' => e = .returned (.int .i64 0) ∧ Below W.heap.size W w') := ⟨fun W => (soundingsref08_sign.calls 1 (bs l) _ _ W (by have h1 := sign_f l hl i c (d :: r1) hA 0; rw [hn1] at h1; exact h1)).mono fun e w' h => ⟨h.1, h.2.below⟩⟩
 have HV : Aside0 (tokAt (c :: d :: r1) = none) := ⟨by rw [HV0.out, if_pos hn1]⟩
 clear hA hlt hbhz hzz hkz hlen hil h0 hn1 hlet h34 hkv h46 hdd hzz1 hkz1 hbhz1 hlt1 HV0
 go_enter Tryz.func34, Tryz.ntmps34
 go_wp2_with fail
 refine (HK.out _).mono ?_
 rintro e_ w_ ⟨rfl, hd_⟩
 have HB_ := Aside0.mk (HB.out.below hd_)
 clear hd_ HB
 have HB := HB_
 clear HB_
 go_wp2_with fail
 refine (HK1.out _).mono ?_
 rintro e_ w_ ⟨rfl, hd_⟩
 have HB_ := Aside0.mk (HB.out.below hd_)
 clear hd_ HB
 have HB := HB_
 clear HB_
 go_wp2_with fail
 refine (HSG.out _).mono ?_
 rintro e_ w_ ⟨rfl, hd_⟩
 have HB_ := Aside0.mk (HB.out.below hd_)
 clear hd_ HB
 have HB := HB_
 clear HB_
 have k0 := HB.out.c0
 have k1 := HB.out.c1
 have k2 := HB.out.c2
 have f0 := HB.out.f0 0
 have f1 := HB.out.f0 1
 have f2 := HB.out.f0 2
 have hltB := heap_lt HB.out.blk
 go_wp2_with fail
 have h3 := HB.out.set3 (.int .i64 0) (.int .i64 0) ⟨#[]⟩
 refine bodyPost_ret (results_list (rs := [.cell 4 41, .tmp 5]) rfl (by simp) (.cell w.heap.size 41 _ (0, 0) _ rfl h3 rfl rfl rfl (.tmp .nil))) rfl ?_
 rw [HV.out]
 exact ⟨⟨0, 0, ⟨#[]⟩, by first | rfl | simp⟩, HB.out.bel3 _ _ _⟩
theorem rtoken_any (l : List UInt8) (hl : l.length ≤ 1000000) (i : Nat) (c : UInt8) (r : List UInt8) (hA : At l i (c :: r)) (w : World) (hN : LaidN w) (hS : LaidS w) :
  Calls Tryz.prog 34 #[.string (bs l), .int .i64 i] w fun e w' => RtE i e (tokAt (c :: r)) ∧ Below w.heap.size w w' := by
 by_cases hlet : isLet c.toNat = true
 ·exact rtok_let l hl i c r hA w hlet
 have hlet0 : isLet c.toNat = false := Bool.eq_false_iff.2 hlet
 by_cases hdig : isDig c.toNat = true
 ·by_cases hK : (numTx (c :: r)).length ≤ 200 ∧ plainV (numTx (c :: r)) = true
  ·exact rtok_DN l hl i c r hA w hN hS hdig hK
  ·cases hp : parseS (numTx (c :: r)) with
   | some v => exact rtok_DS l hl i c r hA w hN hS hdig hK v hp
   | none => exact rtok_DF l hl i c r hA w hN hS hdig hK hp
 have hdig0 : isDig c.toNat = false := Bool.eq_false_iff.2 hdig
 by_cases h46 : c.toNat = 46
 ·cases hr : r with
  | nil =>
   rw [← hr]
   by_cases hn : signN (c :: r) = 0
   ·exact rtok_PF l hl i c r hA w h46 hr hn
   ·exact rtok_PG l hl i c r hA w h46 hr _ rfl hn
  | cons d r1 =>
   rw [← hr]
   by_cases hdd : isDig d.toNat = true
   ·by_cases hK : (numTx (c :: r)).length ≤ 200 ∧ plainV (numTx (c :: r)) = true
    ·exact rtok_EN l hl i c r hA w hN hS h46 d r1 hr hdd hK
    ·cases hp : parseS (numTx (c :: r)) with
     | some v => exact rtok_ES l hl i c r hA w hN hS h46 d r1 hr hdd hK v hp
     | none => exact rtok_EF l hl i c r hA w hN hS h46 d r1 hr hdd hK hp
   ·by_cases hn : signN (c :: r) = 0
    ·exact rtok_RF l hl i c r hA w h46 d r1 hr (Bool.eq_false_iff.2 hdd) hn
    ·exact rtok_RG l hl i c r hA w h46 d r1 hr (Bool.eq_false_iff.2 hdd) _ rfl hn
 by_cases h34 : c.toNat = 34
 ·cases hq : quotT (c :: r).length (quotR r []) with
  | none => exact rtok_qF l hl i c r hA w h34 hq
  | some x =>
   obtain ⟨k, t, n⟩ := x
   have hk : k = 4 := by
    unfold quotT at hq
    split at hq
    ·cases hq
    ·split at hq
     ·simp only [Option.some.injEq, Prod.mk.injEq] at hq; exact hq.1.symm
     ·cases hq
   subst hk
   exact rtok_qQ l hl i c r hA w h34 t n hq
 ·by_cases hn : signN (c :: r) = 0
  ·exact rtok_CF l hl i c r hA w hlet0 hdig0 h46 h34 hn
  ·exact rtok_CG l hl i c r hA w hlet0 hdig0 h46 h34 _ rfl hn
end Go.Proofs.YtjleceekccehoaaGreatDoor.Pr
