/- Texts of this session, cut down to what one claim needs and joined: LexNum. -/
import Derived.Test.YtjleceekccehoaaGreatDoorVGJ16
import Derived.Test.YtjleceekccehoaaGreatDoorVGJ17
set_option linter.unusedVariables false
set_option linter.unusedSimpArgs false
namespace Go.Proofs.YtjleceekccehoaaGreatDoor.Pr
open Go.RowKit Go.Proofs.YtjleceekccehoaaGreatDoorW.PrintWords Go.Proofs.YtjleceekccehoaaGreatDoorW.PrintLast Go.Proofs.YtjleceekccehoaaGreatDoorW.PrintMore

/-- Does a number, or a span, begin here? -/
def isNum0 : List UInt8 → Bool
 | [] => false
 | c :: r => isDig c.toNat || (c.toNat == 46 && (match r with | [] => false | d :: _ => isDig d.toNat))
def numTx (s : List UInt8) : List UInt8 := s.take (runS true 0 s)
def numK (t : List UInt8) : Nat := if t.length ≤ 200 ∧ plainV t = true then 2 else if (parseS t).isSome = true then 3 else 0
def numT (s : List UInt8) : Tk := if isNum0 s = true then (if numK (numTx s) = 0 then none else some (numK (numTx s), numTx s, (numTx s).length)) else none
/-- What number's callees ask of the package-level variables. -/
structure LaidM (w : World) : Prop where
 n : LaidN w
 s : LaidS w
 u : LaidU w
theorem LaidM.below {w w' : World} (h : LaidM w) (hb : Below w.heap.size w w') : LaidM w' := ⟨h.n.below hb, h.s.below hb, h.u.below hb⟩
theorem ok0 {z : Nat} (h : isDig z = true ∨ z = 46) : okS true 0 z = true := by
 unfold okS
 rcases h with h | rfl
 ·rw [h]; simp
 ·simp
theorem numTx_cons {c : UInt8} (r : List UInt8) (h : isDig c.toNat = true ∨ c.toNat = 46) : numTx (c :: r) = c :: r.take (runS (plS true 0) c.toNat r) := by
 unfold numTx
 rw [runS, if_pos (ok0 h)]
 rfl
theorem numTx_beg {c : UInt8} (r : List UInt8) (h : isDig c.toNat = true ∨ c.toNat = 46) : BegN (numTx (c :: r)) := by
 rw [numTx_cons r h]
 refine ⟨by simp, fun d hd => ?_⟩
 have hd' : c = d := by simpa using hd
 subst hd'
 rcases h with h | h
 ·exact Or.inl (by simpa [isDig] using h)
 ·exact Or.inr h
theorem numTx_le (s : List UInt8) : (numTx s).length ≤ s.length := by unfold numTx; rw [List.length_take]; exact Nat.min_le_right _ _
theorem nbox_mk (w0 w2 : World) (n : Nat) (hn : w2.heap.size = n) (hb : Below w0.heap.size w0 w2) (hle : w0.heap.size ≤ n) : NBox w0 ((w2.alloc (.cells #[.bool true] 4)).alloc (.cells #[.int .u8 0] 5)) n (n + 1) true 0 := by
 subst hn
 have h1 := heap_alloc_new w2 (.cells #[.bool true] 4)
 have h2 := heap_alloc_new (w2.alloc (.cells #[.bool true] 4)) (.cells #[.int .u8 0] 5)
 rw [show (w2.alloc (.cells #[.bool true] 4)).heap.size = w2.heap.size + 1 from Array.size_push _] at h2
 exact ⟨((below_alloc (Below.refl _ _) _).block _ (heap_lt h1)).trans h1, h2, hle, by omega, by omega, below_alloc (below_alloc hb _) _⟩
set_option maxHeartbeats 8000000 in
set_option maxRecDepth 100000 in
theorem number_B (l : List UInt8) (hl : l.length ≤ 1000000) (i : Nat) (c : UInt8) (r : List UInt8) (hA : At l i (c :: r)) (w : World) (hX : LaidM w) (hd : isDig c.toNat = false) (h46 : c.toNat ≠ 46) :
  Calls Tryz.prog 50 #[.agg #[.string (bs l), .int .i64 i]] w fun e w' => e = .returned (tkV (numT (c :: r))) ∧ Below w.heap.size w w' := by
 have hsz := bs_size l
 have hil := hA.le
 have HA := Aside0.mk hA
 have HXM := Aside0.mk hX
 have HL := Aside0.mk hl
 have t1 : (0 : Int) ≤ (i : Int) := by omega
 have t2 : (i : Int) ≤ (l.length : Int) := by omega
 have hx1 : (bs l).extract i l.length = bs (c :: r) := by rw [bs_drop', hA.eq]
 have hx2 : (bs l).extract i (bs l).size = bs (c :: r) := by rw [bs_drop, hA.eq]
 have HB := Aside0.mk (RBox.new (w0 := w) w l i (Below.refl _ _))
 have HT := Aside0.mk (TkB.new w l i)
 have hq0 : (bs (c :: r)).size = (c :: r).length := bs_size _
 have hz0 : ∀ h : 0 < (bs (c :: r)).size, ((bs (c :: r))[0]'h).toNat = c.toNat := fun h => rfl
 have hlen := hA.len
 have HV : Aside0 (numT (c :: r) = none) := ⟨by unfold numT; rw [show isNum0 (c :: r) = false from by show (isDig c.toNat || (c.toNat == 46 && _)) = false; rw [hd, beq_eq_false_iff_ne.2 h46]; rfl]; rfl⟩
 obtain ⟨z, hz⟩ : ∃ z, c.toNat = z := ⟨_, rfl⟩
 obtain ⟨b0, hb0⟩ : ∃ b, bs (c :: r) = b := ⟨_, rfl⟩
 obtain ⟨n0, hn0⟩ : ∃ n, (c :: r).length = n := ⟨_, rfl⟩
 have HB0 := Aside0.mk hb0
 have HZ := Aside0.mk hz
 have HN0 := Aside0.mk hn0
 rw [hz] at hz0 hd h46
 rw [hb0] at hx1 hx2 hq0 hz0
 rw [hn0] at hq0
 have hn1 : 1 ≤ n0 := by rw [← hn0]; simp
 have HDG := Aside0.mk hd
 have n46 : ((z : Int) != 46) = true := by rw [bne_iff_ne]; omega
 have x0 := HB.out.c0
 have x1 := HB.out.c1
 clear hA hX hl hz hb0 hn0 hd h46 hlen
 go_enter Tryz.func50, Tryz.ntmps50
 go_wp2_with (go_at_call 72; with_reducible refine (digit_any z _).mono ?_; rw [HDG.out]; rintro e_ w' ⟨rfl, rfl⟩)
 refine bodyPost_ret (results_list (rs := [.cell 2 41, .tmp 3]) rfl (by simp) (.cell (w.heap.size + 1) 41 _ (0, 0) _ rfl HT.out.blk rfl rfl rfl (.tmp .nil))) rfl ?_
 rw [HV.out]
 exact ⟨rfl, HT.out.bel⟩
set_option maxHeartbeats 8000000 in
set_option maxRecDepth 100000 in
theorem number_C (l : List UInt8) (hl : l.length ≤ 1000000) (i : Nat) (c : UInt8) (r : List UInt8) (hA : At l i (c :: r)) (w : World) (hX : LaidM w) (hd : isDig c.toNat = false) (h46 : c.toNat = 46) (hr : r = []) :
  Calls Tryz.prog 50 #[.agg #[.string (bs l), .int .i64 i]] w fun e w' => e = .returned (tkV (numT (c :: r))) ∧ Below w.heap.size w w' := by
 have hsz := bs_size l
 have hil := hA.le
 have HA := Aside0.mk hA
 have HXM := Aside0.mk hX
 have HL := Aside0.mk hl
 have t1 : (0 : Int) ≤ (i : Int) := by omega
 have t2 : (i : Int) ≤ (l.length : Int) := by omega
 have hx1 : (bs l).extract i l.length = bs (c :: r) := by rw [bs_drop', hA.eq]
 have hx2 : (bs l).extract i (bs l).size = bs (c :: r) := by rw [bs_drop, hA.eq]
 have HB := Aside0.mk (RBox.new (w0 := w) w l i (Below.refl _ _))
 have HT := Aside0.mk (TkB.new w l i)
 have hq0 : (bs (c :: r)).size = (c :: r).length := bs_size _
 have hz0 : ∀ h : 0 < (bs (c :: r)).size, ((bs (c :: r))[0]'h).toNat = c.toNat := fun h => rfl
 have hlen := hA.len
 subst hr
 have HV : Aside0 (numT (c :: []) = none) := ⟨by unfold numT; rw [show isNum0 (c :: []) = false from by show (isDig c.toNat || (c.toNat == 46 && false)) = false; rw [hd]; simp]; rfl⟩
 obtain ⟨z, hz⟩ : ∃ z, c.toNat = z := ⟨_, rfl⟩
 obtain ⟨b0, hb0⟩ : ∃ b, bs (c :: []) = b := ⟨_, rfl⟩
 obtain ⟨n0, hn0⟩ : ∃ n, (c :: []).length = n := ⟨_, rfl⟩
 have HB0 := Aside0.mk hb0
 have HZ := Aside0.mk hz
 have HN0 := Aside0.mk hn0
 rw [hz] at hz0 hd h46
 rw [hb0] at hx1 hx2 hq0 hz0
 have hq1 : b0.size = 1 := hq0
 have HDG := Aside0.mk hd
 have n46 : ((z : Int) != 46) = false := by rw [bne_eq_false_iff_eq]; omega
 have x0 := HB.out.c0
 have x1 := HB.out.c1
 clear hA hX hl hz hb0 hn0 hd h46 hlen hq0
 go_enter Tryz.func50, Tryz.ntmps50
 go_wp2_with (go_at_call 72; with_reducible refine (digit_any z _).mono ?_; rw [HDG.out]; rintro e_ w' ⟨rfl, rfl⟩)
 refine bodyPost_ret (results_list (rs := [.cell 2 41, .tmp 3]) rfl (by simp) (.cell (w.heap.size + 1) 41 _ (0, 0) _ rfl HT.out.blk rfl rfl rfl (.tmp .nil))) rfl ?_
 rw [HV.out]
 exact ⟨rfl, HT.out.bel⟩
set_option maxHeartbeats 8000000 in
set_option maxRecDepth 100000 in
theorem number_D (l : List UInt8) (hl : l.length ≤ 1000000) (i : Nat) (c : UInt8) (r : List UInt8) (hA : At l i (c :: r)) (w : World) (hX : LaidM w) (hd : isDig c.toNat = false) (h46 : c.toNat = 46) (d : UInt8) (r1 : List UInt8) (hr : r = d :: r1) (hdd : isDig d.toNat = false) :
  Calls Tryz.prog 50 #[.agg #[.string (bs l), .int .i64 i]] w fun e w' => e = .returned (tkV (numT (c :: r))) ∧ Below w.heap.size w w' := by
 have hsz := bs_size l
 have hil := hA.le
 have HA := Aside0.mk hA
 have HXM := Aside0.mk hX
 have HL := Aside0.mk hl
 have t1 : (0 : Int) ≤ (i : Int) := by omega
 have t2 : (i : Int) ≤ (l.length : Int) := by omega
 have hx1 : (bs l).extract i l.length = bs (c :: r) := by rw [bs_drop', hA.eq]
 have hx2 : (bs l).extract i (bs l).size = bs (c :: r) := by rw [bs_drop, hA.eq]
 have HB := Aside0.mk (RBox.new (w0 := w) w l i (Below.refl _ _))
 have HT := Aside0.mk (TkB.new w l i)
 have hq0 : (bs (c :: r)).size = (c :: r).length := bs_size _
 have hz0 : ∀ h : 0 < (bs (c :: r)).size, ((bs (c :: r))[0]'h).toNat = c.toNat := fun h => rfl
 have hlen := hA.len
 subst hr
 have HV : Aside0 (numT (c :: d :: r1) = none) := ⟨by unfold numT; rw [show isNum0 (c :: d :: r1) = false from by show (isDig c.toNat || (c.toNat == 46 && isDig d.toNat)) = false; rw [hd, hdd]; simp]; rfl⟩
 have hz1 : ∀ h : 1 < (bs (c :: d :: r1)).size, ((bs (c :: d :: r1))[1]'h).toNat = d.toNat := fun h => rfl
 obtain ⟨z, hz⟩ : ∃ z, c.toNat = z := ⟨_, rfl⟩
 obtain ⟨b0, hb0⟩ : ∃ b, bs (c :: d :: r1) = b := ⟨_, rfl⟩
 obtain ⟨n0, hn0⟩ : ∃ n, (c :: d :: r1).length = n := ⟨_, rfl⟩
 have HB0 := Aside0.mk hb0
 have HZ := Aside0.mk hz
 have HN0 := Aside0.mk hn0
 obtain ⟨z1, hzz1⟩ : ∃ z, d.toNat = z := ⟨_, rfl⟩
 rw [hz] at hz0 hd h46
 rw [hzz1] at hz1 hdd
 rw [hb0] at hx1 hx2 hq0 hz0 hz1
 rw [hn0] at hq0
 have hn1 : 2 ≤ n0 := by rw [← hn0]; simp
 have en1 : ((n0 : Int) == 1) = false := by rw [beq_eq_false_iff_ne]; omega
 have HDG := Aside0.mk hd
 have HDG1 := Aside0.mk hdd
 have n46 : ((z : Int) != 46) = false := by rw [bne_eq_false_iff_eq]; omega
 have x0 := HB.out.c0
 have x1 := HB.out.c1
 clear hA hX hl hz hb0 hn0 hd h46 hlen hzz1 hdd
 go_enter Tryz.func50, Tryz.ntmps50
 go_wp2_with (first | (go_at_call 72; with_reducible refine (digit_any z _).mono ?_; rw [HDG.out]; rintro e_ w' ⟨rfl, rfl⟩) | (go_at_call 72; with_reducible refine (digit_any z1 _).mono ?_; rw [HDG1.out]; rintro e_ w' ⟨rfl, rfl⟩))
 refine bodyPost_ret (results_list (rs := [.cell 2 41, .tmp 3]) rfl (by simp) (.cell (w.heap.size + 1) 41 _ (0, 0) _ rfl HT.out.blk rfl rfl rfl (.tmp .nil))) rfl ?_
 rw [HV.out]
 exact ⟨rfl, HT.out.bel⟩
set_option maxHeartbeats 8000000 in
set_option maxRecDepth 100000 in
theorem number_AN (l : List UInt8) (hl : l.length ≤ 1000000) (i : Nat) (c : UInt8) (r : List UInt8) (hA : At l i (c :: r)) (w : World) (hM : LaidM w) (hd : isDig c.toNat = true) (hK : (numTx (c :: r)).length ≤ 200 ∧ plainV (numTx (c :: r)) = true) :
  Calls Tryz.prog 50 #[.agg #[.string (bs l), .int .i64 i]] w fun e w' => e = .returned (tkV (numT (c :: r))) ∧ Below w.heap.size w w' := by
 have hsz := bs_size l
 have hil := hA.le
 have HA := Aside0.mk hA
 have HL := Aside0.mk hl
 have t1 : (0 : Int) ≤ (i : Int) := by omega
 have t2 : (i : Int) ≤ (l.length : Int) := by omega
 have hx1 : (bs l).extract i l.length = bs (c :: r) := by rw [bs_drop', hA.eq]
 have hx2 : (bs l).extract i (bs l).size = bs (c :: r) := by rw [bs_drop, hA.eq]
 have HB := Aside0.mk (RBox.new (w0 := w) w l i (Below.refl _ _))
 have HT := Aside0.mk (TkB.new w l i)
 have hq0 : (bs (c :: r)).size = (c :: r).length := bs_size _
 have hz0 : ∀ h : 0 < (bs (c :: r)).size, ((bs (c :: r))[0]'h).toNat = c.toNat := fun h => rfl
 have hlen := hA.len
 have HV := Aside0.mk (show isNum0 (c :: r) = true from by show (isDig c.toNat || _) = true; rw [hd]; rfl)
 have HBG := Aside0.mk (numTx_beg r (Or.inl hd))
 obtain ⟨tx, htx⟩ : ∃ tx, numTx (c :: r) = tx := ⟨_, rfl⟩
 obtain ⟨b1, hb1⟩ : ∃ b, bs tx = b := ⟨_, rfl⟩
 obtain ⟨n1, hn1⟩ : ∃ n, tx.length = n := ⟨_, rfl⟩
 have q1 : b1.size = n1 := by rw [← hb1, bs_size, hn1]
 rw [htx] at HBG hK
 have HWH : Aside0 (∀ (w2 w4 : World) (a b : Nat), NBox w2 w4 a b true 0 → Calls Tryz.prog 45 #[.agg #[.string (bs l), .int .i64 i], .func (.func 73) #[] #[.pointer (some ⟨a, 0, none⟩), .pointer (some ⟨b, 0, none⟩)]] w4 fun e w' => e = .returned (.string b1) ∧ Below w2.heap.size w2 w') := ⟨fun w2 w4 a b h => by rw [← hb1, ← htx]; exact whileS_any l hl i _ hA a b true 0 w2 w4 h⟩
 have hle : tx.length ≤ 1000000 := by have h1 := numTx_le (c :: r); rw [htx] at h1; have h2 := hA.len; omega
 have HVP : Aside0 (∀ w', LaidM w' → Calls Tryz.prog 23 #[.string b1] w' fun e w'' => (∃ b : Int, e = .returned (.tuple #[.int .u64 b, .nilIface])) ∧ Below w'.heap.size w' w'') := ⟨fun w' h => by rw [← hb1]; refine (valParse_any tx HBG.out hle w' h.n h.s).mono ?_; rintro e w'' ⟨h1, h2⟩; unfold VpE at h1; rw [if_pos hK] at h1; exact ⟨h1, h2⟩⟩
 have HVV : Aside0 (tkV (numT (c :: r)) = .tuple #[.agg #[.int .i64 2, .int .i64 0, .string b1], .int .i64 n1]) := ⟨by unfold numT; rw [HV.out, if_pos rfl, htx, show numK tx = 2 from if_pos hK, if_neg (by decide), ← hb1, ← hn1]; rfl⟩
 have HQ1 := Aside0.mk q1
 clear htx hb1 hn1 hK hle
 obtain ⟨z, hz⟩ : ∃ z, c.toNat = z := ⟨_, rfl⟩
 obtain ⟨b0, hb0⟩ : ∃ b, bs (c :: r) = b := ⟨_, rfl⟩
 obtain ⟨n0, hn0⟩ : ∃ n, (c :: r).length = n := ⟨_, rfl⟩
 have HB0 := Aside0.mk hb0
 have HZ := Aside0.mk hz
 have HN0 := Aside0.mk hn0
 rw [hz] at hz0 hd
 rw [hb0] at hx1 hx2 hq0 hz0
 rw [hn0] at hq0
 have hn1 : 1 ≤ n0 := by rw [← hn0]; simp
 have HDG := Aside0.mk hd
 have x0 := HB.out.c0
 have x1 := HB.out.c1
 clear hA hl hz hb0 hn0 hd hlen
 have HLM := Aside0.mk hM
 clear hM
 go_enter Tryz.func50, Tryz.ntmps50
 go_wp2_with (go_at_call 72; with_reducible refine (digit_any z _).mono ?_; rw [HDG.out]; rintro e_ w' ⟨rfl, rfl⟩)
 obtain ⟨w2, hw2⟩ : ∃ w2, w2 = (w.alloc (.cells #[.string (bs l), .int .i64 i] 57)).alloc (.cells #[.int .i64 0, .int .i64 0, .string ⟨#[]⟩] 41) := ⟨_, rfl⟩
 have HT2 : Aside0 (TkB w w2 (w.heap.size + 1)) := ⟨by rw [hw2]; exact HT.out⟩
 have HS2 : Aside0 (w2.heap.size = w.heap.size + 1 + 1) := ⟨by rw [hw2]; simp⟩
 rw [← hw2]
 clear HT HB x0 x1 hw2
 refine (HWH.out w2 _ _ _ (nbox_mk w2 w2 _ HS2.out (Below.refl _ _) (Nat.le_of_eq HS2.out))).mono ?_
 rintro e_ w5 ⟨rfl, hb5⟩
 have HT5 := Aside0.mk (HT2.out.below hb5)
 clear hb5
 go_wp2_with fail
 refine (HVP.out _ (HLM.out.below HT5.out.bel)).mono ?_
 rintro e_ w6 ⟨⟨bv, rfl⟩, hb6⟩
 have HT6 := Aside0.mk (HT5.out.below hb6)
 clear hb6
 have k0 := HT6.out.c0
 have k1 := HT6.out.c1
 have k2 := HT6.out.c2
 have f0 := HT6.out.f0 0
 have f1 := HT6.out.f0 1
 have f2 := HT6.out.f0 2
 go_wp2_with fail
 refine bodyPost_ret (results_list (rs := [.cell 2 41, .tmp 3]) rfl (by simp) (.cell (w.heap.size + 1) 41 _ (0, 0) _ rfl (HT6.out.set3 (.int .i64 2) (.int .i64 0) b1) rfl rfl rfl (.tmp .nil))) rfl ?_
 rw [HVV.out]
 exact ⟨by first | rfl | simp [tok0], HT6.out.bel3 _ _ _⟩
set_option maxHeartbeats 8000000 in
set_option maxRecDepth 100000 in
theorem number_EN (l : List UInt8) (hl : l.length ≤ 1000000) (i : Nat) (c : UInt8) (r : List UInt8) (hA : At l i (c :: r)) (w : World) (hM : LaidM w) (hd : isDig c.toNat = false) (h46 : c.toNat = 46) (d : UInt8) (r1 : List UInt8) (hr : r = d :: r1) (hdd : isDig d.toNat = true) (hK : (numTx (c :: d :: r1)).length ≤ 200 ∧ plainV (numTx (c :: d :: r1)) = true) :
  Calls Tryz.prog 50 #[.agg #[.string (bs l), .int .i64 i]] w fun e w' => e = .returned (tkV (numT (c :: r))) ∧ Below w.heap.size w w' := by
 have hsz := bs_size l
 have hil := hA.le
 have HA := Aside0.mk hA
 have HL := Aside0.mk hl
 have t1 : (0 : Int) ≤ (i : Int) := by omega
 have t2 : (i : Int) ≤ (l.length : Int) := by omega
 have hx1 : (bs l).extract i l.length = bs (c :: r) := by rw [bs_drop', hA.eq]
 have hx2 : (bs l).extract i (bs l).size = bs (c :: r) := by rw [bs_drop, hA.eq]
 have HB := Aside0.mk (RBox.new (w0 := w) w l i (Below.refl _ _))
 have HT := Aside0.mk (TkB.new w l i)
 have hq0 : (bs (c :: r)).size = (c :: r).length := bs_size _
 have hz0 : ∀ h : 0 < (bs (c :: r)).size, ((bs (c :: r))[0]'h).toNat = c.toNat := fun h => rfl
 have hlen := hA.len
 subst hr
 have HV := Aside0.mk (show isNum0 (c :: d :: r1) = true from by show (isDig c.toNat || (c.toNat == 46 && isDig d.toNat)) = true; rw [hdd, h46]; simp)
 have HBG := Aside0.mk (numTx_beg (d :: r1) (Or.inr h46))
 obtain ⟨tx, htx⟩ : ∃ tx, numTx (c :: d :: r1) = tx := ⟨_, rfl⟩
 obtain ⟨b1, hb1⟩ : ∃ b, bs tx = b := ⟨_, rfl⟩
 obtain ⟨n1, hn1⟩ : ∃ n, tx.length = n := ⟨_, rfl⟩
 have q1 : b1.size = n1 := by rw [← hb1, bs_size, hn1]
 rw [htx] at HBG hK
 have HWH : Aside0 (∀ (w2 w4 : World) (a b : Nat), NBox w2 w4 a b true 0 → Calls Tryz.prog 45 #[.agg #[.string (bs l), .int .i64 i], .func (.func 73) #[] #[.pointer (some ⟨a, 0, none⟩), .pointer (some ⟨b, 0, none⟩)]] w4 fun e w' => e = .returned (.string b1) ∧ Below w2.heap.size w2 w') := ⟨fun w2 w4 a b h => by rw [← hb1, ← htx]; exact whileS_any l hl i _ hA a b true 0 w2 w4 h⟩
 have hle : tx.length ≤ 1000000 := by have h1 := numTx_le (c :: d :: r1); rw [htx] at h1; have h2 := hA.len; omega
 have HVP : Aside0 (∀ w', LaidM w' → Calls Tryz.prog 23 #[.string b1] w' fun e w'' => (∃ b : Int, e = .returned (.tuple #[.int .u64 b, .nilIface])) ∧ Below w'.heap.size w' w'') := ⟨fun w' h => by rw [← hb1]; refine (valParse_any tx HBG.out hle w' h.n h.s).mono ?_; rintro e w'' ⟨h1, h2⟩; unfold VpE at h1; rw [if_pos hK] at h1; exact ⟨h1, h2⟩⟩
 have HVV : Aside0 (tkV (numT (c :: d :: r1)) = .tuple #[.agg #[.int .i64 2, .int .i64 0, .string b1], .int .i64 n1]) := ⟨by unfold numT; rw [HV.out, if_pos rfl, htx, show numK tx = 2 from if_pos hK, if_neg (by decide), ← hb1, ← hn1]; rfl⟩
 have HQ1 := Aside0.mk q1
 clear htx hb1 hn1 hK hle
 have hz1 : ∀ h : 1 < (bs (c :: d :: r1)).size, ((bs (c :: d :: r1))[1]'h).toNat = d.toNat := fun h => rfl
 obtain ⟨z, hz⟩ : ∃ z, c.toNat = z := ⟨_, rfl⟩
 obtain ⟨b0, hb0⟩ : ∃ b, bs (c :: d :: r1) = b := ⟨_, rfl⟩
 obtain ⟨n0, hn0⟩ : ∃ n, (c :: d :: r1).length = n := ⟨_, rfl⟩
 have HB0 := Aside0.mk hb0
 have HZ := Aside0.mk hz
 have HN0 := Aside0.mk hn0
 obtain ⟨z1, hzz1⟩ : ∃ z, d.toNat = z := ⟨_, rfl⟩
 rw [hz] at hz0 hd h46
 rw [hzz1] at hz1 hdd
 rw [hb0] at hx1 hx2 hq0 hz0 hz1
 rw [hn0] at hq0
 have hn1 : 2 ≤ n0 := by rw [← hn0]; simp
 have en1 : ((n0 : Int) == 1) = false := by rw [beq_eq_false_iff_ne]; omega
 have HDG := Aside0.mk hd
 have HDG1 := Aside0.mk hdd
 have n46 : ((z : Int) != 46) = false := by rw [bne_eq_false_iff_eq]; omega
 have x0 := HB.out.c0
 have x1 := HB.out.c1
 clear hA hl hz hb0 hn0 hd h46 hlen hzz1 hdd
 have HLM := Aside0.mk hM
 clear hM
 go_enter Tryz.func50, Tryz.ntmps50
 go_wp2_with (first | (go_at_call 72; with_reducible refine (digit_any z _).mono ?_; rw [HDG.out]; rintro e_ w' ⟨rfl, rfl⟩) | (go_at_call 72; with_reducible refine (digit_any z1 _).mono ?_; rw [HDG1.out]; rintro e_ w' ⟨rfl, rfl⟩))
 obtain ⟨w2, hw2⟩ : ∃ w2, w2 = (w.alloc (.cells #[.string (bs l), .int .i64 i] 57)).alloc (.cells #[.int .i64 0, .int .i64 0, .string ⟨#[]⟩] 41) := ⟨_, rfl⟩
 have HT2 : Aside0 (TkB w w2 (w.heap.size + 1)) := ⟨by rw [hw2]; exact HT.out⟩
 have HS2 : Aside0 (w2.heap.size = w.heap.size + 1 + 1) := ⟨by rw [hw2]; simp⟩
 rw [← hw2]
 clear HT HB x0 x1 hw2
 refine (HWH.out w2 _ _ _ (nbox_mk w2 w2 _ HS2.out (Below.refl _ _) (Nat.le_of_eq HS2.out))).mono ?_
 rintro e_ w5 ⟨rfl, hb5⟩
 have HT5 := Aside0.mk (HT2.out.below hb5)
 clear hb5
 go_wp2_with fail
 refine (HVP.out _ (HLM.out.below HT5.out.bel)).mono ?_
 rintro e_ w6 ⟨⟨bv, rfl⟩, hb6⟩
 have HT6 := Aside0.mk (HT5.out.below hb6)
 clear hb6
 have k0 := HT6.out.c0
 have k1 := HT6.out.c1
 have k2 := HT6.out.c2
 have f0 := HT6.out.f0 0
 have f1 := HT6.out.f0 1
 have f2 := HT6.out.f0 2
 go_wp2_with fail
 refine bodyPost_ret (results_list (rs := [.cell 2 41, .tmp 3]) rfl (by simp) (.cell (w.heap.size + 1) 41 _ (0, 0) _ rfl (HT6.out.set3 (.int .i64 2) (.int .i64 0) b1) rfl rfl rfl (.tmp .nil))) rfl ?_
 rw [HVV.out]
 exact ⟨by first | rfl | simp [tok0], HT6.out.bel3 _ _ _⟩
set_option maxHeartbeats 8000000 in
set_option maxRecDepth 100000 in
theorem number_AS (l : List UInt8) (hl : l.length ≤ 1000000) (i : Nat) (c : UInt8) (r : List UInt8) (hA : At l i (c :: r)) (w : World) (hM : LaidM w) (hd : isDig c.toNat = true) (hK : ¬ ((numTx (c :: r)).length ≤ 200 ∧ plainV (numTx (c :: r)) = true)) (v : Int) (hsp : parseS (numTx (c :: r)) = some v) :
  Calls Tryz.prog 50 #[.agg #[.string (bs l), .int .i64 i]] w fun e w' => e = .returned (tkV (numT (c :: r))) ∧ Below w.heap.size w w' := by
 have hsz := bs_size l
 have hil := hA.le
 have HA := Aside0.mk hA
 have HL := Aside0.mk hl
 have t1 : (0 : Int) ≤ (i : Int) := by omega
 have t2 : (i : Int) ≤ (l.length : Int) := by omega
 have hx1 : (bs l).extract i l.length = bs (c :: r) := by rw [bs_drop', hA.eq]
 have hx2 : (bs l).extract i (bs l).size = bs (c :: r) := by rw [bs_drop, hA.eq]
 have HB := Aside0.mk (RBox.new (w0 := w) w l i (Below.refl _ _))
 have HT := Aside0.mk (TkB.new w l i)
 have hq0 : (bs (c :: r)).size = (c :: r).length := bs_size _
 have hz0 : ∀ h : 0 < (bs (c :: r)).size, ((bs (c :: r))[0]'h).toNat = c.toNat := fun h => rfl
 have hlen := hA.len
 have HV := Aside0.mk (show isNum0 (c :: r) = true from by show (isDig c.toNat || _) = true; rw [hd]; rfl)
 have HBG := Aside0.mk (numTx_beg r (Or.inl hd))
 obtain ⟨tx, htx⟩ : ∃ tx, numTx (c :: r) = tx := ⟨_, rfl⟩
 obtain ⟨b1, hb1⟩ : ∃ b, bs tx = b := ⟨_, rfl⟩
 obtain ⟨n1, hn1⟩ : ∃ n, tx.length = n := ⟨_, rfl⟩
 have q1 : b1.size = n1 := by rw [← hb1, bs_size, hn1]
 rw [htx] at HBG hK
 have HWH : Aside0 (∀ (w2 w4 : World) (a b : Nat), NBox w2 w4 a b true 0 → Calls Tryz.prog 45 #[.agg #[.string (bs l), .int .i64 i], .func (.func 73) #[] #[.pointer (some ⟨a, 0, none⟩), .pointer (some ⟨b, 0, none⟩)]] w4 fun e w' => e = .returned (.string b1) ∧ Below w2.heap.size w2 w') := ⟨fun w2 w4 a b h => by rw [← hb1, ← htx]; exact whileS_any l hl i _ hA a b true 0 w2 w4 h⟩
 have hle : tx.length ≤ 1000000 := by have h1 := numTx_le (c :: r); rw [htx] at h1; have h2 := hA.len; omega
 have HVP : Aside0 (∀ w', LaidM w' → Calls Tryz.prog 23 #[.string b1] w' fun e w'' => e = .returned (.tuple #[.int .u64 0, .iface 55 (.int .i64 13)]) ∧ Below w'.heap.size w' w'') := ⟨fun w' h => by rw [← hb1]; refine (valParse_any tx HBG.out hle w' h.n h.s).mono ?_; rintro e w'' ⟨h1, h2⟩; unfold VpE at h1; rw [if_neg hK] at h1; exact ⟨h1, h2⟩⟩
 have HSP : Aside0 (∀ w', LaidM w' → Calls Tryz.prog 74 #[.string b1] w' fun e w'' => e = .returned (.tuple #[.int .i64 v, .nilIface]) ∧ Below w'.heap.size w' w'') := ⟨fun w' h => by rw [← hb1]; have h1 := parse_any tx (by omega) w' h.u; rw [← htx] at h1 ⊢; rw [hsp] at h1; exact h1⟩
 have HVV : Aside0 (tkV (numT (c :: r)) = .tuple #[.agg #[.int .i64 3, .int .i64 0, .string b1], .int .i64 n1]) := ⟨by unfold numT; rw [HV.out, if_pos rfl]; rw [htx] at hsp ⊢; rw [show numK tx = 3 from by unfold numK; rw [if_neg hK, hsp]; rfl, if_neg (by decide), ← hb1, ← hn1]; rfl⟩
 have HQ1 := Aside0.mk q1
 clear htx hb1 hn1 hK hle hsp
 obtain ⟨z, hz⟩ : ∃ z, c.toNat = z := ⟨_, rfl⟩
 obtain ⟨b0, hb0⟩ : ∃ b, bs (c :: r) = b := ⟨_, rfl⟩
 obtain ⟨n0, hn0⟩ : ∃ n, (c :: r).length = n := ⟨_, rfl⟩
 have HB0 := Aside0.mk hb0
 have HZ := Aside0.mk hz
 have HN0 := Aside0.mk hn0
 rw [hz] at hz0 hd
 rw [hb0] at hx1 hx2 hq0 hz0
 rw [hn0] at hq0
 have hn1 : 1 ≤ n0 := by rw [← hn0]; simp
 have HDG := Aside0.mk hd
 have x0 := HB.out.c0
 have x1 := HB.out.c1
 clear hA hl hz hb0 hn0 hd hlen
 have HLM := Aside0.mk hM
 clear hM
 go_enter Tryz.func50, Tryz.ntmps50
 go_wp2_with (go_at_call 72; with_reducible refine (digit_any z _).mono ?_; rw [HDG.out]; rintro e_ w' ⟨rfl, rfl⟩)
 obtain ⟨w2, hw2⟩ : ∃ w2, w2 = (w.alloc (.cells #[.string (bs l), .int .i64 i] 57)).alloc (.cells #[.int .i64 0, .int .i64 0, .string ⟨#[]⟩] 41) := ⟨_, rfl⟩
 have HT2 : Aside0 (TkB w w2 (w.heap.size + 1)) := ⟨by rw [hw2]; exact HT.out⟩
 have HS2 : Aside0 (w2.heap.size = w.heap.size + 1 + 1) := ⟨by rw [hw2]; simp⟩
 rw [← hw2]
 clear HT HB x0 x1 hw2
 refine (HWH.out w2 _ _ _ (nbox_mk w2 w2 _ HS2.out (Below.refl _ _) (Nat.le_of_eq HS2.out))).mono ?_
 rintro e_ w5 ⟨rfl, hb5⟩
 have HT5 := Aside0.mk (HT2.out.below hb5)
 clear hb5
 go_wp2_with fail
 refine (HVP.out _ (HLM.out.below HT5.out.bel)).mono ?_
 rintro e_ w6 ⟨rfl, hb6⟩
 have HT6 := Aside0.mk (HT5.out.below hb6)
 clear hb6
 go_wp2_with fail
 refine (HSP.out _ (HLM.out.below HT6.out.bel)).mono ?_
 rintro e_ w7 ⟨rfl, hb7⟩
 have HT7 := Aside0.mk (HT6.out.below hb7)
 clear hb7
 have k0 := HT7.out.c0
 have k1 := HT7.out.c1
 have k2 := HT7.out.c2
 have f0 := HT7.out.f0 0
 have f1 := HT7.out.f0 1
 have f2 := HT7.out.f0 2
 go_wp2_with fail
 refine bodyPost_ret (results_list (rs := [.cell 2 41, .tmp 3]) rfl (by simp) (.cell (w.heap.size + 1) 41 _ (0, 0) _ rfl (HT7.out.set3 (.int .i64 3) (.int .i64 0) b1) rfl rfl rfl (.tmp .nil))) rfl ?_
 rw [HVV.out]
 exact ⟨by first | rfl | simp [tok0], HT7.out.bel3 _ _ _⟩
set_option maxHeartbeats 8000000 in
set_option maxRecDepth 100000 in
theorem number_ES (l : List UInt8) (hl : l.length ≤ 1000000) (i : Nat) (c : UInt8) (r : List UInt8) (hA : At l i (c :: r)) (w : World) (hM : LaidM w) (hd : isDig c.toNat = false) (h46 : c.toNat = 46) (d : UInt8) (r1 : List UInt8) (hr : r = d :: r1) (hdd : isDig d.toNat = true) (hK : ¬ ((numTx (c :: d :: r1)).length ≤ 200 ∧ plainV (numTx (c :: d :: r1)) = true)) (v : Int) (hsp : parseS (numTx (c :: d :: r1)) = some v) :
  Calls Tryz.prog 50 #[.agg #[.string (bs l), .int .i64 i]] w fun e w' => e = .returned (tkV (numT (c :: r))) ∧ Below w.heap.size w w' := by
 have hsz := bs_size l
 have hil := hA.le
 have HA := Aside0.mk hA
 have HL := Aside0.mk hl
 have t1 : (0 : Int) ≤ (i : Int) := by omega
 have t2 : (i : Int) ≤ (l.length : Int) := by omega
 have hx1 : (bs l).extract i l.length = bs (c :: r) := by rw [bs_drop', hA.eq]
 have hx2 : (bs l).extract i (bs l).size = bs (c :: r) := by rw [bs_drop, hA.eq]
 have HB := Aside0.mk (RBox.new (w0 := w) w l i (Below.refl _ _))
 have HT := Aside0.mk (TkB.new w l i)
 have hq0 : (bs (c :: r)).size = (c :: r).length := bs_size _
 have hz0 : ∀ h : 0 < (bs (c :: r)).size, ((bs (c :: r))[0]'h).toNat = c.toNat := fun h => rfl
 have hlen := hA.len
 subst hr
 have HV := Aside0.mk (show isNum0 (c :: d :: r1) = true from by show (isDig c.toNat || (c.toNat == 46 && isDig d.toNat)) = true; rw [hdd, h46]; simp)
 have HBG := Aside0.mk (numTx_beg (d :: r1) (Or.inr h46))
 obtain ⟨tx, htx⟩ : ∃ tx, numTx (c :: d :: r1) = tx := ⟨_, rfl⟩
 obtain ⟨b1, hb1⟩ : ∃ b, bs tx = b := ⟨_, rfl⟩
 obtain ⟨n1, hn1⟩ : ∃ n, tx.length = n := ⟨_, rfl⟩
 have q1 : b1.size = n1 := by rw [← hb1, bs_size, hn1]
 rw [htx] at HBG hK
 have HWH : Aside0 (∀ (w2 w4 : World) (a b : Nat), NBox w2 w4 a b true 0 → Calls Tryz.prog 45 #[.agg #[.string (bs l), .int .i64 i], .func (.func 73) #[] #[.pointer (some ⟨a, 0, none⟩), .pointer (some ⟨b, 0, none⟩)]] w4 fun e w' => e = .returned (.string b1) ∧ Below w2.heap.size w2 w') := ⟨fun w2 w4 a b h => by rw [← hb1, ← htx]; exact whileS_any l hl i _ hA a b true 0 w2 w4 h⟩
 have hle : tx.length ≤ 1000000 := by have h1 := numTx_le (c :: d :: r1); rw [htx] at h1; have h2 := hA.len; omega
 have HVP : Aside0 (∀ w', LaidM w' → Calls Tryz.prog 23 #[.string b1] w' fun e w'' => e = .returned (.tuple #[.int .u64 0, .iface 55 (.int .i64 13)]) ∧ Below w'.heap.size w' w'') := ⟨fun w' h => by rw [← hb1]; refine (valParse_any tx HBG.out hle w' h.n h.s).mono ?_; rintro e w'' ⟨h1, h2⟩; unfold VpE at h1; rw [if_neg hK] at h1; exact ⟨h1, h2⟩⟩
 have HSP : Aside0 (∀ w', LaidM w' → Calls Tryz.prog 74 #[.string b1] w' fun e w'' => e = .returned (.tuple #[.int .i64 v, .nilIface]) ∧ Below w'.heap.size w' w'') := ⟨fun w' h => by rw [← hb1]; have h1 := parse_any tx (by omega) w' h.u; rw [← htx] at h1 ⊢; rw [hsp] at h1; exact h1⟩
 have HVV : Aside0 (tkV (numT (c :: d :: r1)) = .tuple #[.agg #[.int .i64 3, .int .i64 0, .string b1], .int .i64 n1]) := ⟨by unfold numT; rw [HV.out, if_pos rfl]; rw [htx] at hsp ⊢; rw [show numK tx = 3 from by unfold numK; rw [if_neg hK, hsp]; rfl, if_neg (by decide), ← hb1, ← hn1]; rfl⟩
 have HQ1 := Aside0.mk q1
 clear htx hb1 hn1 hK hle hsp
 have hz1 : ∀ h : 1 < (bs (c :: d :: r1)).size, ((bs (c :: d :: r1))[1]'h).toNat = d.toNat := fun h => rfl
 obtain ⟨z, hz⟩ : ∃ z, c.toNat = z := ⟨_, rfl⟩
 obtain ⟨b0, hb0⟩ : ∃ b, bs (c :: d :: r1) = b := ⟨_, rfl⟩
 obtain ⟨n0, hn0⟩ : ∃ n, (c :: d :: r1).length = n := ⟨_, rfl⟩
 have HB0 := Aside0.mk hb0
 have HZ := Aside0.mk hz
 have HN0 := Aside0.mk hn0
 obtain ⟨z1, hzz1⟩ : ∃ z, d.toNat = z := ⟨_, rfl⟩
 rw [hz] at hz0 hd h46
 rw [hzz1] at hz1 hdd
 rw [hb0] at hx1 hx2 hq0 hz0 hz1
 rw [hn0] at hq0
 have hn1 : 2 ≤ n0 := by rw [← hn0]; simp
 have en1 : ((n0 : Int) == 1) = false := by rw [beq_eq_false_iff_ne]; omega
 have HDG := Aside0.mk hd
 have HDG1 := Aside0.mk hdd
 have n46 : ((z : Int) != 46) = false := by rw [bne_eq_false_iff_eq]; omega
 have x0 := HB.out.c0
 have x1 := HB.out.c1
 clear hA hl hz hb0 hn0 hd h46 hlen hzz1 hdd
 have HLM := Aside0.mk hM
 clear hM
 go_enter Tryz.func50, Tryz.ntmps50
 go_wp2_with (first | (go_at_call 72; with_reducible refine (digit_any z _).mono ?_; rw [HDG.out]; rintro e_ w' ⟨rfl, rfl⟩) | (go_at_call 72; with_reducible refine (digit_any z1 _).mono ?_; rw [HDG1.out]; rintro e_ w' ⟨rfl, rfl⟩))
 obtain ⟨w2, hw2⟩ : ∃ w2, w2 = (w.alloc (.cells #[.string (bs l), .int .i64 i] 57)).alloc (.cells #[.int .i64 0, .int .i64 0, .string ⟨#[]⟩] 41) := ⟨_, rfl⟩
 have HT2 : Aside0 (TkB w w2 (w.heap.size + 1)) := ⟨by rw [hw2]; exact HT.out⟩
 have HS2 : Aside0 (w2.heap.size = w.heap.size + 1 + 1) := ⟨by rw [hw2]; simp⟩
 rw [← hw2]
 clear HT HB x0 x1 hw2
 refine (HWH.out w2 _ _ _ (nbox_mk w2 w2 _ HS2.out (Below.refl _ _) (Nat.le_of_eq HS2.out))).mono ?_
 rintro e_ w5 ⟨rfl, hb5⟩
 have HT5 := Aside0.mk (HT2.out.below hb5)
 clear hb5
 go_wp2_with fail
 refine (HVP.out _ (HLM.out.below HT5.out.bel)).mono ?_
 rintro e_ w6 ⟨rfl, hb6⟩
 have HT6 := Aside0.mk (HT5.out.below hb6)
 clear hb6
 go_wp2_with fail
 refine (HSP.out _ (HLM.out.below HT6.out.bel)).mono ?_
 rintro e_ w7 ⟨rfl, hb7⟩
 have HT7 := Aside0.mk (HT6.out.below hb7)
 clear hb7
 have k0 := HT7.out.c0
 have k1 := HT7.out.c1
 have k2 := HT7.out.c2
 have f0 := HT7.out.f0 0
 have f1 := HT7.out.f0 1
 have f2 := HT7.out.f0 2
 go_wp2_with fail
 refine bodyPost_ret (results_list (rs := [.cell 2 41, .tmp 3]) rfl (by simp) (.cell (w.heap.size + 1) 41 _ (0, 0) _ rfl (HT7.out.set3 (.int .i64 3) (.int .i64 0) b1) rfl rfl rfl (.tmp .nil))) rfl ?_
 rw [HVV.out]
 exact ⟨by first | rfl | simp [tok0], HT7.out.bel3 _ _ _⟩
set_option maxHeartbeats 8000000 in
set_option maxRecDepth 100000 in
theorem number_AR (l : List UInt8) (hl : l.length ≤ 1000000) (i : Nat) (c : UInt8) (r : List UInt8) (hA : At l i (c :: r)) (w : World) (hM : LaidM w) (hd : isDig c.toNat = true) (hK : ¬ ((numTx (c :: r)).length ≤ 200 ∧ plainV (numTx (c :: r)) = true)) (hsp : parseS (numTx (c :: r)) = none) :
  Calls Tryz.prog 50 #[.agg #[.string (bs l), .int .i64 i]] w fun e w' => e = .returned (tkV (numT (c :: r))) ∧ Below w.heap.size w w' := by
 have hsz := bs_size l
 have hil := hA.le
 have HA := Aside0.mk hA
 have HL := Aside0.mk hl
 have t1 : (0 : Int) ≤ (i : Int) := by omega
 have t2 : (i : Int) ≤ (l.length : Int) := by omega
 have hx1 : (bs l).extract i l.length = bs (c :: r) := by rw [bs_drop', hA.eq]
 have hx2 : (bs l).extract i (bs l).size = bs (c :: r) := by rw [bs_drop, hA.eq]
 have HB := Aside0.mk (RBox.new (w0 := w) w l i (Below.refl _ _))
 have HT := Aside0.mk (TkB.new w l i)
 have hq0 : (bs (c :: r)).size = (c :: r).length := bs_size _
 have hz0 : ∀ h : 0 < (bs (c :: r)).size, ((bs (c :: r))[0]'h).toNat = c.toNat := fun h => rfl
 have hlen := hA.len
 have HV := Aside0.mk (show isNum0 (c :: r) = true from by show (isDig c.toNat || _) = true; rw [hd]; rfl)
 have HBG := Aside0.mk (numTx_beg r (Or.inl hd))
 obtain ⟨tx, htx⟩ : ∃ tx, numTx (c :: r) = tx := ⟨_, rfl⟩
 obtain ⟨b1, hb1⟩ : ∃ b, bs tx = b := ⟨_, rfl⟩
 obtain ⟨n1, hn1⟩ : ∃ n, tx.length = n := ⟨_, rfl⟩
 have q1 : b1.size = n1 := by rw [← hb1, bs_size, hn1]
 rw [htx] at HBG hK
 have HWH : Aside0 (∀ (w2 w4 : World) (a b : Nat), NBox w2 w4 a b true 0 → Calls Tryz.prog 45 #[.agg #[.string (bs l), .int .i64 i], .func (.func 73) #[] #[.pointer (some ⟨a, 0, none⟩), .pointer (some ⟨b, 0, none⟩)]] w4 fun e w' => e = .returned (.string b1) ∧ Below w2.heap.size w2 w') := ⟨fun w2 w4 a b h => by rw [← hb1, ← htx]; exact whileS_any l hl i _ hA a b true 0 w2 w4 h⟩
 have hle : tx.length ≤ 1000000 := by have h1 := numTx_le (c :: r); rw [htx] at h1; have h2 := hA.len; omega
 have HVP : Aside0 (∀ w', LaidM w' → Calls Tryz.prog 23 #[.string b1] w' fun e w'' => e = .returned (.tuple #[.int .u64 0, .iface 55 (.int .i64 13)]) ∧ Below w'.heap.size w' w'') := ⟨fun w' h => by rw [← hb1]; refine (valParse_any tx HBG.out hle w' h.n h.s).mono ?_; rintro e w'' ⟨h1, h2⟩; unfold VpE at h1; rw [if_neg hK] at h1; exact ⟨h1, h2⟩⟩
 have HSP : Aside0 (∀ w', LaidM w' → Calls Tryz.prog 74 #[.string b1] w' fun e w'' => e = .returned (.tuple #[.int .i64 0, .iface 55 (.int .i64 13)]) ∧ Below w'.heap.size w' w'') := ⟨fun w' h => by rw [← hb1]; have h1 := parse_any tx (by omega) w' h.u; rw [← htx] at h1 ⊢; rw [hsp] at h1; exact h1⟩
 have HVV : Aside0 (tkV (numT (c :: r)) = .tuple #[tok0, .int .i64 0]) := ⟨by unfold numT; rw [HV.out, if_pos rfl]; rw [htx] at hsp ⊢; rw [show numK tx = 0 from by unfold numK; rw [if_neg hK, hsp]; rfl]; rfl⟩
 have HQ1 := Aside0.mk q1
 clear htx hb1 hn1 hK hle hsp
 obtain ⟨z, hz⟩ : ∃ z, c.toNat = z := ⟨_, rfl⟩
 obtain ⟨b0, hb0⟩ : ∃ b, bs (c :: r) = b := ⟨_, rfl⟩
 obtain ⟨n0, hn0⟩ : ∃ n, (c :: r).length = n := ⟨_, rfl⟩
 have HB0 := Aside0.mk hb0
 have HZ := Aside0.mk hz
 have HN0 := Aside0.mk hn0
 rw [hz] at hz0 hd
 rw [hb0] at hx1 hx2 hq0 hz0
 rw [hn0] at hq0
 have hn1 : 1 ≤ n0 := by rw [← hn0]; simp
 have HDG := Aside0.mk hd
 have x0 := HB.out.c0
 have x1 := HB.out.c1
 clear hA hl hz hb0 hn0 hd hlen
 have HLM := Aside0.mk hM
 clear hM
 go_enter Tryz.func50, Tryz.ntmps50
 go_wp2_with (go_at_call 72; with_reducible refine (digit_any z _).mono ?_; rw [HDG.out]; rintro e_ w' ⟨rfl, rfl⟩)
 obtain ⟨w2, hw2⟩ : ∃ w2, w2 = (w.alloc (.cells #[.string (bs l), .int .i64 i] 57)).alloc (.cells #[.int .i64 0, .int .i64 0, .string ⟨#[]⟩] 41) := ⟨_, rfl⟩
 have HT2 : Aside0 (TkB w w2 (w.heap.size + 1)) := ⟨by rw [hw2]; exact HT.out⟩
 have HS2 : Aside0 (w2.heap.size = w.heap.size + 1 + 1) := ⟨by rw [hw2]; simp⟩
 rw [← hw2]
 clear HT HB x0 x1 hw2
 refine (HWH.out w2 _ _ _ (nbox_mk w2 w2 _ HS2.out (Below.refl _ _) (Nat.le_of_eq HS2.out))).mono ?_
 rintro e_ w5 ⟨rfl, hb5⟩
 have HT5 := Aside0.mk (HT2.out.below hb5)
 clear hb5
 go_wp2_with fail
 refine (HVP.out _ (HLM.out.below HT5.out.bel)).mono ?_
 rintro e_ w6 ⟨rfl, hb6⟩
 have HT6 := Aside0.mk (HT5.out.below hb6)
 clear hb6
 go_wp2_with fail
 refine (HSP.out _ (HLM.out.below HT6.out.bel)).mono ?_
 rintro e_ w7 ⟨rfl, hb7⟩
 have HT7 := Aside0.mk (HT6.out.below hb7)
 clear hb7
 have k0 := HT7.out.c0
 have k1 := HT7.out.c1
 have k2 := HT7.out.c2
 have f0 := HT7.out.f0 0
 have f1 := HT7.out.f0 1
 have f2 := HT7.out.f0 2
 go_wp2_with fail
 refine bodyPost_ret (results_list (rs := [.cell 2 41, .tmp 3]) rfl (by simp) (.cell (w.heap.size + 1) 41 _ (0, 0) _ rfl (HT7.out.set3 (.int .i64 0) (.int .i64 0) ⟨#[]⟩) rfl rfl rfl (.tmp .nil))) rfl ?_
 rw [HVV.out]
 exact ⟨by first | rfl | simp [tok0], HT7.out.bel3 _ _ _⟩
set_option maxHeartbeats 8000000 in
set_option maxRecDepth 100000 in
theorem number_ER (l : List UInt8) (hl : l.length ≤ 1000000) (i : Nat) (c : UInt8) (r : List UInt8) (hA : At l i (c :: r)) (w : World) (hM : LaidM w) (hd : isDig c.toNat = false) (h46 : c.toNat = 46) (d : UInt8) (r1 : List UInt8) (hr : r = d :: r1) (hdd : isDig d.toNat = true) (hK : ¬ ((numTx (c :: d :: r1)).length ≤ 200 ∧ plainV (numTx (c :: d :: r1)) = true)) (hsp : parseS (numTx (c :: d :: r1)) = none) :
  Calls Tryz.prog 50 #[.agg #[.string (bs l), .int .i64 i]] w fun e w' => e = .returned (tkV (numT (c :: r))) ∧ Below w.heap.size w w' := by
 have hsz := bs_size l
 have hil := hA.le
 have HA := Aside0.mk hA
 have HL := Aside0.mk hl
 have t1 : (0 : Int) ≤ (i : Int) := by omega
 have t2 : (i : Int) ≤ (l.length : Int) := by omega
 have hx1 : (bs l).extract i l.length = bs (c :: r) := by rw [bs_drop', hA.eq]
 have hx2 : (bs l).extract i (bs l).size = bs (c :: r) := by rw [bs_drop, hA.eq]
 have HB := Aside0.mk (RBox.new (w0 := w) w l i (Below.refl _ _))
 have HT := Aside0.mk (TkB.new w l i)
 have hq0 : (bs (c :: r)).size = (c :: r).length := bs_size _
 have hz0 : ∀ h : 0 < (bs (c :: r)).size, ((bs (c :: r))[0]'h).toNat = c.toNat := fun h => rfl
 have hlen := hA.len
 subst hr
 have HV := Aside0.mk (show isNum0 (c :: d :: r1) = true from by show (isDig c.toNat || (c.toNat == 46 && isDig d.toNat)) = true; rw [hdd, h46]; simp)
 have HBG := Aside0.mk (numTx_beg (d :: r1) (Or.inr h46))
 obtain ⟨tx, htx⟩ : ∃ tx, numTx (c :: d :: r1) = tx := ⟨_, rfl⟩
 obtain ⟨b1, hb1⟩ : ∃ b, bs tx = b := ⟨_, rfl⟩
 obtain ⟨n1, hn1⟩ : ∃ n, tx.length = n := ⟨_, rfl⟩
 have q1 : b1.size = n1 := by rw [← hb1, bs_size, hn1]
 rw [htx] at HBG hK
 have HWH : Aside0 (∀ (w2 w4 : World) (a b : Nat), NBox w2 w4 a b true 0 → Calls Tryz.prog 45 #[.agg #[.string (bs l), .int .i64 i], .func (.func 73) #[] #[.pointer (some ⟨a, 0, none⟩), .pointer (some ⟨b, 0, none⟩)]] w4 fun e w' => e = .returned (.string b1) ∧ Below w2.heap.size w2 w') := ⟨fun w2 w4 a b h => by rw [← hb1, ← htx]; exact whileS_any l hl i _ hA a b true 0 w2 w4 h⟩
 have hle : tx.length ≤ 1000000 := by have h1 := numTx_le (c :: d :: r1); rw [htx] at h1; have h2 := hA.len; omega
 have HVP : Aside0 (∀ w', LaidM w' → Calls Tryz.prog 23 #[.string b1] w' fun e w'' => e = .returned (.tuple #[.int .u64 0, .iface 55 (.int .i64 13)]) ∧ Below w'.heap.size w' w'') := ⟨fun w' h => by rw [← hb1]; refine (valParse_any tx HBG.out hle w' h.n h.s).mono ?_; rintro e w'' ⟨h1, h2⟩; unfold VpE at h1; rw [if_neg hK] at h1; exact ⟨h1, h2⟩⟩
 have HSP : Aside0 (∀ w', LaidM w' → Calls Tryz.prog 74 #[.string b1] w' fun e w'' => e = .returned (.tuple #[.int .i64 0, .iface 55 (.int .i64 13)]) ∧ Below w'.heap.size w' w'') := ⟨fun w' h => by rw [← hb1]; have h1 := parse_any tx (by omega) w' h.u; rw [← htx] at h1 ⊢; rw [hsp] at h1; exact h1⟩
 have HVV : Aside0 (tkV (numT (c :: d :: r1)) = .tuple #[tok0, .int .i64 0]) := ⟨by unfold numT; rw [HV.out, if_pos rfl]; rw [htx] at hsp ⊢; rw [show numK tx = 0 from by unfold numK; rw [if_neg hK, hsp]; rfl]; rfl⟩
 have HQ1 := Aside0.mk q1
 clear htx hb1 hn1 hK hle hsp
 have hz1 : ∀ h : 1 < (bs (c :: d :: r1)).size, ((bs (c :: d :: r1))[1]'h).toNat = d.toNat := fun h => rfl
 obtain ⟨z, hz⟩ : ∃ z, c.toNat = z := ⟨_, rfl⟩
 obtain ⟨b0, hb0⟩ : ∃ b, bs (c :: d :: r1) = b := ⟨_, rfl⟩
 obtain ⟨n0, hn0⟩ : ∃ n, (c :: d :: r1).length = n := ⟨_, rfl⟩
 have HB0 := Aside0.mk hb0
 have HZ := Aside0.mk hz
 have HN0 := Aside0.mk hn0
 obtain ⟨z1, hzz1⟩ : ∃ z, d.toNat = z := ⟨_, rfl⟩
 rw [hz] at hz0 hd h46
 rw [hzz1] at hz1 hdd
 rw [hb0] at hx1 hx2 hq0 hz0 hz1
 rw [hn0] at hq0
 have hn1 : 2 ≤ n0 := by rw [← hn0]; simp
 have en1 : ((n0 : Int) == 1) = false := by rw [beq_eq_false_iff_ne]; omega
 have HDG := Aside0.mk hd
 have HDG1 := Aside0.mk hdd
 have n46 : ((z : Int) != 46) = false := by rw [bne_eq_false_iff_eq]; omega
 have x0 := HB.out.c0
 have x1 := HB.out.c1
 clear hA hl hz hb0 hn0 hd h46 hlen hzz1 hdd
 have HLM := Aside0.mk hM
 clear hM
 go_enter Tryz.func50, Tryz.ntmps50
 go_wp2_with (first | (go_at_call 72; with_reducible refine (digit_any z _).mono ?_; rw [HDG.out]; rintro e_ w' ⟨rfl, rfl⟩) | (go_at_call 72; with_reducible refine (digit_any z1 _).mono ?_; rw [HDG1.out]; rintro e_ w' ⟨rfl, rfl⟩))
 obtain ⟨w2, hw2⟩ : ∃ w2, w2 = (w.alloc (.cells #[.string (bs l), .int .i64 i] 57)).alloc (.cells #[.int .i64 0, .int .i64 0, .string ⟨#[]⟩] 41) := ⟨_, rfl⟩
 have HT2 : Aside0 (TkB w w2 (w.heap.size + 1)) := ⟨by rw [hw2]; exact HT.out⟩
 have HS2 : Aside0 (w2.heap.size = w.heap.size + 1 + 1) := ⟨by rw [hw2]; simp⟩
 rw [← hw2]
 clear HT HB x0 x1 hw2
 refine (HWH.out w2 _ _ _ (nbox_mk w2 w2 _ HS2.out (Below.refl _ _) (Nat.le_of_eq HS2.out))).mono ?_
 rintro e_ w5 ⟨rfl, hb5⟩
 have HT5 := Aside0.mk (HT2.out.below hb5)
 clear hb5
 go_wp2_with fail
 refine (HVP.out _ (HLM.out.below HT5.out.bel)).mono ?_
 rintro e_ w6 ⟨rfl, hb6⟩
 have HT6 := Aside0.mk (HT5.out.below hb6)
 clear hb6
 go_wp2_with fail
 refine (HSP.out _ (HLM.out.below HT6.out.bel)).mono ?_
 rintro e_ w7 ⟨rfl, hb7⟩
 have HT7 := Aside0.mk (HT6.out.below hb7)
 clear hb7
 have k0 := HT7.out.c0
 have k1 := HT7.out.c1
 have k2 := HT7.out.c2
 have f0 := HT7.out.f0 0
 have f1 := HT7.out.f0 1
 have f2 := HT7.out.f0 2
 go_wp2_with fail
 refine bodyPost_ret (results_list (rs := [.cell 2 41, .tmp 3]) rfl (by simp) (.cell (w.heap.size + 1) 41 _ (0, 0) _ rfl (HT7.out.set3 (.int .i64 0) (.int .i64 0) ⟨#[]⟩) rfl rfl rfl (.tmp .nil))) rfl ?_
 rw [HVV.out]
 exact ⟨by first | rfl | simp [tok0], HT7.out.bel3 _ _ _⟩
theorem lnumber_any (l : List UInt8) (hl : l.length ≤ 1000000) (i : Nat) (c : UInt8) (r : List UInt8) (hA : At l i (c :: r)) (w : World) (hM : LaidM w) :
  Calls Tryz.prog 50 #[.agg #[.string (bs l), .int .i64 i]] w fun e w' => e = .returned (tkV (numT (c :: r))) ∧ Below w.heap.size w w' := by
 by_cases hd : isDig c.toNat = true
 ·by_cases hK : (numTx (c :: r)).length ≤ 200 ∧ plainV (numTx (c :: r)) = true
  ·exact number_AN l hl i c r hA w hM hd hK
  ·cases hsp : parseS (numTx (c :: r)) with
   | none => exact number_AR l hl i c r hA w hM hd hK hsp
   | some v => exact number_AS l hl i c r hA w hM hd hK v hsp
 ·have hd0 : isDig c.toNat = false := Bool.eq_false_iff.2 hd
  by_cases h46 : c.toNat = 46
  ·cases r with
   | nil => exact number_C l hl i c [] hA w hM hd0 h46 rfl
   | cons d r1 =>
    by_cases hdd : isDig d.toNat = true
    ·by_cases hK : (numTx (c :: d :: r1)).length ≤ 200 ∧ plainV (numTx (c :: d :: r1)) = true
     ·exact number_EN l hl i c (d :: r1) hA w hM hd0 h46 d r1 rfl hdd hK
     ·cases hsp : parseS (numTx (c :: d :: r1)) with
      | none => exact number_ER l hl i c (d :: r1) hA w hM hd0 h46 d r1 rfl hdd hK hsp
      | some v => exact number_ES l hl i c (d :: r1) hA w hM hd0 h46 d r1 rfl hdd hK v hsp
    ·exact number_D l hl i c (d :: r1) hA w hM hd0 h46 d r1 rfl (Bool.eq_false_iff.2 hdd)
  ·exact number_B l hl i c r hA w hM hd0 h46
end Go.Proofs.YtjleceekccehoaaGreatDoor.Pr
