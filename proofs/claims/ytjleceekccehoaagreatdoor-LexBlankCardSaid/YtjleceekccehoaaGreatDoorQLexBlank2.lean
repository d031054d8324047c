/- Texts of this session, cut down to what one claim needs and joined: LexBlank2. -/
import Derived.Test.YtjleceekccehoaaGreatDoorQGJ23
import Derived.BigQuiet
set_option linter.unusedVariables false
set_option linter.unusedSimpArgs false
namespace Go.Proofs.YtjleceekccehoaaGreatDoor.Pr
open Go.RowKit Go.Proofs.YtjleceekccehoaaGreatDoorW.PrintWords Go.Proofs.YtjleceekccehoaaGreatDoorW.PrintLast Go.Proofs.YtjleceekccehoaaGreatDoorW.PrintMore

set_option maxHeartbeats 8000000 in
set_option maxRecDepth 100000 in
theorem blank_good (s : List UInt8) (h : s.length ≤ 400) (L : List Tok) (hL : lexS 0 s = .ok L) (hne : L ≠ []) (w : World) (hX : LaidW w) : Calls Tryz.prog 6 #[.string (bs s)] w fun e w' => e = .returned (.bool true) ∧ Below w.heap.size w w' := by
  have HX := Aside0.mk hX
  have sa := bs_size s
  have a1 : ((s.length : Int) > 400) = False := eq_false (by omega)
  have hbl := blank_go s s.length s 0 L (Nat.le_refl _) rfl hL 0 0 (Nat.le_refl _)
  obtain ⟨K, hK, hM⟩ := hbl
  have hGl := blankTx_len s s.length s 0 L (Nat.le_refl _) rfl hL 0
  have hge := lexS_ge _ s 0 L (Nat.le_refl _) hL
  have hG4 : (blankTx s 0 0 L).length ≤ 4000 := by have := hge.2; omega
  have HA := Aside0.mk (fun W hW => lex_ok (l := s) (by omega) hL W hW)
  obtain ⟨G, hG⟩ : ∃ G, blankTx s 0 0 L = G := ⟨_, rfl⟩
  rw [hG] at hK hG4
  have HK := Aside0.mk (fun W hW => lex_ok (l := G) hG4 hK W hW)
  have HM := Aside0.mk hM
  have HG := Aside0.mk hG
  have HG4 := Aside0.mk hG4
  have HGE := Aside0.mk hge
  have HSO := Aside0.mk (lexS_sorted _ s 0 L (Nat.le_refl _) hL)
  have HS4 := Aside0.mk h
  clear h hX hL hK hM hG hG4 hge hGl
  go_enter Tryz.func6, Tryz.ntmps6
  go_wp2_with fail
  refine (awake8_any _ HX.out).mono ?_
  rintro e_ w1 ⟨rfl, hb1⟩
  have HB1 := Aside0.mk hb1
  clear hb1
  go_wp2_with fail
  refine (HA.out _ (HX.out.t.below HB1.out)).mono ?_
  rintro e_ w2 ⟨⟨v, rfl, hr⟩, hb2⟩
  have HB2 := Aside0.mk (below_step HB1.out hb2)
  have HR := Aside0.mk hr
  clear hb2 hr
  obtain ⟨g, c, rfl, hgc, hgb, hT⟩ := row_tk HR.out hne
  have HT := Aside0.mk hT
  have hg2 := hT.lt
  obtain ⟨n, hn⟩ : ∃ n, L.length = n := ⟨_, rfl⟩
  have HN := Aside0.mk hn
  have hn4 : n ≤ 400 := by have := HGE.out.2; have := HS4.out; omega
  rw [hn] at hgc ⊢
  clear hT hn
  go_wp2_with fail
  go_loopg [5, 6, 7] n (fun q v5 v6 v7 wx => ∃ (i f : Nat) (t : List UInt8), v5 = .string (bs t) ∧ v6 = .int .i64 (f : Int) ∧ v7 = .int .i64 (i : Int) ∧ i + q = n ∧ f ≤ s.length ∧ Aside0 (∀ x ∈ L.drop i, (f : Int) ≤ x.f1) ∧ Aside0 (t ++ blankTx s f i (L.drop i) = G) ∧ Aside0 (Below w2.heap.size w2 wx))
  case atStart => exact ⟨0, 0, [], rfl, rfl, rfl, by omega, Nat.zero_le _, ⟨fun x hx => by obtain ⟨a, ha, _⟩ := HGE.out.1 x hx; omega⟩, ⟨HG.out⟩, ⟨Below.refl _ _⟩⟩
  case round =>
    obtain ⟨i, f, t, rfl, rfl, rfl, hi, hf, HF, HTX, HBx⟩ := hrel
    have HTr := Aside0.mk (HT.out.move (HBx.out.block g hg2))
    have hgr := HTr.out.lt
    have st := bs_size t
    have hs4 := HS4.out
    have hg4 := HG4.out
    have hlen := congrArg List.length HTX.out
    rw [List.length_append] at hlen
    by_cases hin : i = n
    · subst hin
      have t0 : ((i : Int) < (i : Int)) = False := eq_false (by omega)
      have hdn : L.drop i = [] := List.drop_eq_nil_of_le (by have := HN.out; omega)
      have htx := HTX.out
      rw [hdn] at htx hlen
      have hlen2 : t.length + (s.length - f + 2) = G.length := by rw [← htx]; show _ = (t ++ (s.drop f ++ [10, 35])).length; simp
      obtain ⟨m, hm⟩ : ∃ m, s.drop f = m := ⟨_, rfl⟩
      have hml : m.length = s.length - f := by rw [← hm, List.length_drop]
      have htx2 : t ++ (m ++ [10, 35]) = G := by rw [← htx, ← hm]; rfl
      have hx3 : (bs s).extract f s.length = bs m := by rw [bs_drop', hm]
      have k1 : bs t ++ bs m = bs (t ++ m) := bs_cat8 t m
      have k2 : (bs (t ++ m)).size = t.length + m.length := by rw [bs_size, List.length_append]
      have k3 : bs (t ++ m) ++ (⟨#[10, 35]⟩ : ByteArray) = bs G := by rw [← htx2, ← List.append_assoc]; exact bs_cat8 (t ++ m) [10, 35]
      have k4 := bs_size m
      have z1 : t.length + m.length ≤ 9223372036854775807 := by omega
      have z2 : t.length + m.length + 2 ≤ 9223372036854775807 := by omega
      have q3 : (0 : Int) ≤ (f : Int) := by omega
      have q4 : (f : Int) ≤ (s.length : Int) := by omega
      have HBW := Aside0.mk (below_step HB2.out HBx.out)
      clear hdn htx hlen hm hml htx2 HTX hlen2 HF
      go_wp2_with fail
      refine (HK.out _ (HX.out.t.below HBW.out)).mono ?_
      rintro e_ w5 ⟨⟨v8, rfl, hr8⟩, hb5⟩
      have HB5 := Aside0.mk (below_step HBW.out hb5)
      have hKn : K.length = i := by rw [match_len L K HM.out, HN.out]
      have hKne : K ≠ [] := by
        intro h0
        rw [h0] at hKn
        have hi0 : i = 0 := by simpa using hKn.symm
        exact hne (List.length_eq_zero_iff.1 (by rw [HN.out, hi0]))
      obtain ⟨g8, c8, rfl, hgc8, hgb8, hT8⟩ := row_tk hr8 hKne
      have HT5 := Aside0.mk (HTr.out.move (hb5.block g hgr))
      have HT8 := Aside0.mk hT8
      have HKN := Aside0.mk hKn
      have e5 := HT5.out.lt
      have e8 := HT8.out.lt
      rw [hKn] at hgc8 ⊢
      clear hb5 hr8 hT8 hKn hKne k1 k2 k3 k4 z1 z2 hx3 st
      go_wp2_with fail
      go_loopg [10] i (fun q v10 wx => ∃ j : Nat, v10 = .int .i64 (j : Int) ∧ j + q = i ∧ Aside0 (Below w5.heap.size w5 wx))
      case atStart => exact ⟨0, rfl, by omega, ⟨Below.refl _ _⟩⟩
      case round =>
        obtain ⟨j, rfl, hj, HBy⟩ := hrel
        by_cases hji : j = i
        · subst hji
          go_wp2_with fail
          go_ret
          exact ⟨by first | rfl | simp, below_step HB5.out HBy.out⟩
        · have hlt : j < L.length := by have := HN.out; omega
          have hlk : j < K.length := by have := HKN.out; omega
          obtain ⟨x, hx⟩ : ∃ x, L[j]? = some x := ⟨L[j], List.getElem?_eq_getElem hlt⟩
          obtain ⟨y, hy⟩ : ∃ y, K[j]? = some y := ⟨K[j], List.getElem?_eq_getElem hlk⟩
          obtain ⟨h0, h2, h1⟩ := match_at L K HM.out j x y hx hy
          have cx := (HT5.out.move (HBy.out.block g e5)).at_ j x hx
          have cy := (HT8.out.move (HBy.out.block g8 e8)).at_ j y hy
          rw [h0, h2] at cy
          obtain ⟨cx0, cx1, cx2⟩ := cx
          obtain ⟨cy0, cy1, cy2⟩ := cy
          obtain ⟨p0, hp0⟩ : ∃ p, x.f0 = p := ⟨_, rfl⟩
          obtain ⟨p1, hp1⟩ : ∃ p, x.f1 = p := ⟨_, rfl⟩
          obtain ⟨p2, hp2⟩ : ∃ p, x.f2 = p := ⟨_, rfl⟩
          obtain ⟨r1, hr1⟩ : ∃ p, y.f1 = p := ⟨_, rfl⟩
          rw [hp0] at cx0 cy0
          rw [hp1] at cx1 h1
          rw [hp2] at cx2 cy2
          rw [hr1] at cy1 h1
          have n0 : (p0 != p0) = false := by simp
          have n1 : (p2.toList != p2.toList) = false := by simp
          have n2 : decide (r1 < p1) = false := decide_eq_false (by omega)
          have n3 : (r1 < p1) = False := eq_false (by omega)
          have q1 : (0 : Int) ≤ (j : Int) := by omega
          have q2 : (j : Int) < (i : Int) := by omega
          obtain ⟨q', rfl⟩ : ∃ q', gk = q' + 1 := ⟨gk - 1, by omega⟩
          clear hx hy h0 h2 hp0 hp1 hp2 hr1 hlt hlk
          go_wp2_with fail
          go_quiet (fail)
          go_wp2_with fail
          go_roundg q'
          case measure => omega
          case rel => exact ⟨j + 1, by go_num, by omega, ⟨below_drewQ HBy.out _⟩⟩
    · have hlt : i < L.length := by have := HN.out; omega
      obtain ⟨x, hx⟩ : ∃ x, L[i]? = some x := ⟨L[i], List.getElem?_eq_getElem hlt⟩
      have hxm := List.mem_of_getElem? hx
      obtain ⟨a, ha, _, ha2⟩ := HGE.out.1 x hxm
      rw [Nat.zero_add] at ha2
      have hd : L.drop i = x :: L.drop (i + 1) := by
        rw [List.drop_eq_getElem_cons hlt]
        rw [List.getElem?_eq_getElem hlt] at hx
        rw [Option.some.inj hx]
      have hfa : f ≤ a := by have := HF.out x (by rw [hd]; exact List.mem_cons_self); omega
      have hso : ∀ y ∈ L.drop (i + 1), (a : Int) ≤ y.f1 := by
        have h1 : (L.drop i).Pairwise (fun x y => x.f1 ≤ y.f1) := HSO.out.sublist (List.drop_sublist _ _)
        rw [hd] at h1
        intro y hy
        have := (List.pairwise_cons.1 h1).1 y hy
        rw [ha] at this
        exact this
      have hc := HTr.out.at_ i x hx
      have c1 := hc.2.1
      rw [ha] at c1
      have htx := HTX.out
      rw [hd] at htx hlen
      have hbt : blankTx s f i (x :: L.drop (i + 1)) = (s.drop f).take (a - f) ++ sepOf i ++ blankTx s a (i + 1) (L.drop (i + 1)) := by
        show (s.drop f).take (x.f1.toNat - f) ++ sepOf i ++ blankTx s x.f1.toNat (i + 1) (L.drop (i + 1)) = _
        rw [ha, Int.toNat_natCast]
      rw [hbt] at htx hlen
      simp only [List.length_append] at hlen
      have hsz : ((s.drop f).take (a - f)).length = a - f := by rw [List.length_take, List.length_drop]; omega
      rw [hsz] at hlen
      have hx1 : (bs s).extract f a = bs ((s.drop f).take (a - f)) := by rw [bs_mid]
      have HFN := Aside0.mk hso
      obtain ⟨m, hm⟩ : ∃ m, (s.drop f).take (a - f) = m := ⟨_, rfl⟩
      rw [hm] at hx1 htx hsz
      have hml : (bs m).size = a - f := by rw [bs_size, hsz]
      have q1 : (0 : Int) ≤ (i : Int) := by omega
      have q2 : (i : Int) < (n : Int) := by omega
      have q3 : (0 : Int) ≤ (f : Int) := by omega
      have q4 : (f : Int) ≤ (a : Int) := by omega
      have q5 : (a : Int) ≤ (s.length : Int) := by omega
      have k1 : bs t ++ bs m = bs (t ++ m) := bs_cat8 t m
      have k2 : (bs (t ++ m)).size = t.length + (a - f) := by rw [bs_size, List.length_append, ← hsz]
      have tl4 : t.length + (a - f) ≤ 4000 := by omega
      have z1 : t.length + (a - f) ≤ 9223372036854775807 := by omega
      have hxs := hx
      obtain ⟨q', rfl⟩ : ∃ q', gk = q' + 1 := ⟨gk - 1, by omega⟩
      clear hx hxm hd hc hfa hso hbt hm hsz HTX
      have HTX2 := Aside0.mk htx
      clear htx hlen
      rcases (by omega : i % 4 = 0 ∨ i % 4 = 1 ∨ i % 4 = 2 ∨ i % 4 = 3) with hr | hr | hr | hr
      · have e1 : Int.tmod (i : Int) 4 = 0 := by rw [Int.tmod_eq_emod_of_nonneg (by omega)]; omega
        have e2 : (i : Int) % 4 = 0 := by omega
        have k3 : bs (t ++ m) ++ (⟨#[32]⟩ : ByteArray) = bs (t ++ m ++ [32]) := bs_cat8 (t ++ m) [32]
        have z2 : t.length + (a - f) + 1 ≤ 9223372036854775807 := by omega
        have HS := Aside0.mk (show sepOf i = [32] from by unfold sepOf; rw [hr]; rfl)
        clear hr
        go_wp2_with fail
        go_region
        go_wp2_with fail
        go_roundg q'
        case measure => omega
        case rel => exact ⟨i + 1, a, t ++ (m ++ [32]), rfl, rfl, by go_num, by omega, by omega, HFN, ⟨by rw [← HTX2.out, HS.out]; simp only [List.append_assoc]⟩, ⟨(below_alloc HBx.out _).drew⟩⟩
      · have e1 : Int.tmod (i : Int) 4 = 1 := by rw [Int.tmod_eq_emod_of_nonneg (by omega)]; omega
        have e2 : (i : Int) % 4 = 1 := by omega
        have k3 : bs (t ++ m) ++ (⟨#[10]⟩ : ByteArray) = bs (t ++ m ++ [10]) := bs_cat8 (t ++ m) [10]
        have z2 : t.length + (a - f) + 1 ≤ 9223372036854775807 := by omega
        have HS := Aside0.mk (show sepOf i = [10] from by unfold sepOf; rw [hr]; rfl)
        clear hr
        go_wp2_with fail
        go_region
        go_wp2_with fail
        go_roundg q'
        case measure => omega
        case rel => exact ⟨i + 1, a, t ++ (m ++ [10]), rfl, rfl, by go_num, by omega, by omega, HFN, ⟨by rw [← HTX2.out, HS.out]; simp only [List.append_assoc]⟩, ⟨(below_alloc HBx.out _).drew⟩⟩
      · have e1 : Int.tmod (i : Int) 4 = 2 := by rw [Int.tmod_eq_emod_of_nonneg (by omega)]; omega
        have e2 : (i : Int) % 4 = 2 := by omega
        have k3 : bs (t ++ m) ++ (⟨#[9]⟩ : ByteArray) = bs (t ++ m ++ [9]) := bs_cat8 (t ++ m) [9]
        have z2 : t.length + (a - f) + 1 ≤ 9223372036854775807 := by omega
        have HS := Aside0.mk (show sepOf i = [9] from by unfold sepOf; rw [hr]; rfl)
        clear hr
        go_wp2_with fail
        go_region
        go_wp2_with fail
        go_roundg q'
        case measure => omega
        case rel => exact ⟨i + 1, a, t ++ (m ++ [9]), rfl, rfl, by go_num, by omega, by omega, HFN, ⟨by rw [← HTX2.out, HS.out]; simp only [List.append_assoc]⟩, ⟨(below_alloc HBx.out _).drew⟩⟩
      · have e1 : Int.tmod (i : Int) 4 = 3 := by rw [Int.tmod_eq_emod_of_nonneg (by omega)]; omega
        have e2 : (i : Int) % 4 = 3 := by omega
        have k3 : bs (t ++ m) ++ (⟨#[32, 10, 35, 120, 10]⟩ : ByteArray) = bs (t ++ m ++ [32, 10, 35, 120, 10]) := bs_cat8 (t ++ m) [32, 10, 35, 120, 10]
        have z2 : t.length + (a - f) + 5 ≤ 9223372036854775807 := by omega
        have HS := Aside0.mk (show sepOf i = [32, 10, 35, 120, 10] from by unfold sepOf; rw [hr]; rfl)
        clear hr
        go_wp2_with fail
        go_region
        go_wp2_with fail
        go_roundg q'
        case measure => omega
        case rel => exact ⟨i + 1, a, t ++ (m ++ [32, 10, 35, 120, 10]), rfl, rfl, by go_num, by omega, by omega, HFN, ⟨by rw [← HTX2.out, HS.out]; simp only [List.append_assoc]⟩, ⟨(below_alloc HBx.out _).drew⟩⟩
set_option maxHeartbeats 8000000 in
set_option maxRecDepth 100000 in
theorem blank_nil (s : List UInt8) (h : s.length ≤ 400) (hL : lexS 0 s = .ok []) (w : World) (hX : LaidW w) : Calls Tryz.prog 6 #[.string (bs s)] w fun e w' => e = .returned (.bool true) ∧ Below w.heap.size w w' := by
  obtain ⟨L, hLL⟩ : ∃ L : List Tok, L = [] := ⟨_, rfl⟩
  rw [← hLL] at hL
  have HX := Aside0.mk hX
  have sa := bs_size s
  have a1 : ((s.length : Int) > 400) = False := eq_false (by omega)
  have hbl := blank_go s s.length s 0 L (Nat.le_refl _) rfl hL 0 0 (Nat.le_refl _)
  obtain ⟨K, hK, hM⟩ := hbl
  have hGl := blankTx_len s s.length s 0 L (Nat.le_refl _) rfl hL 0
  have hge := lexS_ge _ s 0 L (Nat.le_refl _) hL
  have hG4 : (blankTx s 0 0 L).length ≤ 4000 := by have := hge.2; omega
  have HA := Aside0.mk (fun W hW => lex_ok (l := s) (by omega) hL W hW)
  obtain ⟨G, hG⟩ : ∃ G, blankTx s 0 0 L = G := ⟨_, rfl⟩
  rw [hG] at hK hG4
  have HK := Aside0.mk (fun W hW => lex_ok (l := G) hG4 hK W hW)
  have HM := Aside0.mk hM
  have HG := Aside0.mk hG
  have HG4 := Aside0.mk hG4
  have HGE := Aside0.mk hge
  have HSO := Aside0.mk (lexS_sorted _ s 0 L (Nat.le_refl _) hL)
  have HS4 := Aside0.mk h
  clear h hX hL hK hM hG hG4 hge hGl
  go_enter Tryz.func6, Tryz.ntmps6
  go_wp2_with fail
  refine (awake8_any _ HX.out).mono ?_
  rintro e_ w1 ⟨rfl, hb1⟩
  have HB1 := Aside0.mk hb1
  clear hb1
  go_wp2_with fail
  refine (HA.out _ (HX.out.t.below HB1.out)).mono ?_
  rintro e_ w2 ⟨⟨v, rfl, hr⟩, hb2⟩
  have HB2 := Aside0.mk (below_step HB1.out hb2)
  have HR := Aside0.mk hr
  clear hb2 hr
  have hK0 : K.length = 0 := by rw [match_len L K HM.out, hLL]; rfl
  have hG0 : s ++ [10, 35] = G := by rw [← HG.out, hLL]; rfl
  rw [hLL] at HR
  obtain ⟨A, c, rfl, hc, hC⟩ := Kd.R_reads HR.out
  have k1 : (⟨#[]⟩ : ByteArray) ++ bs s = bs s := by rw [show (⟨#[]⟩ : ByteArray) = bs [] from rfl, bs_cat8]; rfl
  have k0 : (bs s).extract 0 s.length = bs s := by rw [bs_drop']; rfl
  have k3 : bs s ++ (⟨#[10, 35]⟩ : ByteArray) = bs G := by rw [← hG0]; exact bs_cat8 s [10, 35]
  have hs4 := HS4.out
  have z1 : s.length ≤ 9223372036854775807 := by omega
  have z2 : s.length + 2 ≤ 9223372036854775807 := by omega
  have HK0 := Aside0.mk hK0
  clear hC hLL hK0 hG0
  go_wp2_with fail
  go_loopg [5, 6, 7] 0 (fun q v5 v6 v7 wx => v5 = .string ⟨#[]⟩ ∧ v6 = .int .i64 0 ∧ v7 = .int .i64 0 ∧ wx = w2)
  case atStart => exact ⟨rfl, rfl, rfl, rfl⟩
  case round =>
    obtain ⟨rfl, rfl, rfl, rfl⟩ := hrel
    go_wp2_with fail
    refine (HK.out _ (HX.out.t.below HB2.out)).mono ?_
    rintro e_ w5 ⟨⟨v8, rfl, hr8⟩, hb5⟩
    obtain ⟨A8, c8, rfl, hc8, hC8⟩ := Kd.R_reads hr8
    have HB5 := Aside0.mk (below_step HB2.out hb5)
    rw [HK0.out]
    clear hb5 hr8 hC8
    go_wp2_with fail
    go_loopg [10] 0 (fun q v10 wx => v10 = .int .i64 0 ∧ wx = w5)
    case atStart => exact ⟨rfl, rfl⟩
    case round =>
      obtain ⟨rfl, rfl⟩ := hrel
      go_wp2_with fail
      go_ret
      exact ⟨by first | rfl | simp, HB5.out⟩
theorem lexblank_any (s : List UInt8) (w : World) (hX : LaidW w) : Calls Tryz.prog 6 #[.string (bs s)] w fun e w' => e = .returned (.bool true) ∧ Below w.heap.size w w' := by
  by_cases h : s.length ≤ 400
  · cases hL : lexS 0 s with
    | error p => exact blank_bad s h p hL w hX
    | ok L =>
      by_cases hne : L = []
      · subst hne; exact blank_nil s h hL w hX
      · exact blank_good s h L hL hne w hX
  · exact blank_long s (by omega) w hX
end Go.Proofs.YtjleceekccehoaaGreatDoor.Pr
