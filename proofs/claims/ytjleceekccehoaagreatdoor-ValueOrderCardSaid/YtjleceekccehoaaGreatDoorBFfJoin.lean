/- Texts of this session, cut down to what one claim needs and joined: FfJoin. -/
import Derived.Test.YtjleceekccehoaaGreatDoorBFfEfg
import Derived.Test.YtjleceekccehoaaGreatDoorBFfEfgF
set_option linter.unusedVariables false
set_option linter.unusedSimpArgs false
namespace Go.Proofs.YtjleceekccehoaaGreatDoor.Pr
open Go.RowKit Go.Proofs.YtjleceekccehoaaGreatDoorW.PrintWords Go.Proofs.YtjleceekccehoaaGreatDoorW.PrintLast Go.Proofs.YtjleceekccehoaaGreatDoorW.PrintMore

/-- What fmtEFG appends. -/
def efgV (neg : Bool) (ds : List Int) (dp : Int) (nd : Nat) : List Int := if dp - 1 < -4 ∨ 6 ≤ dp - 1 then eV neg ds dp nd else fV neg ds dp nd

theorem efg_any (neg : Bool) (gs : Nat) (ds : List Int) (dp : Int) (nd : Nat) (hd : ds.length = 32) (hnd : nd ≤ 20) (hdp : -400 ≤ dp) (hdp2 : dp ≤ 400) (w0 w : World) (v : Value) (h : St w0 (some gs) ds w v []) :
    Calls Tryz.prog 99 #[v, .bool neg, .slice (some ⟨gs, 0, none⟩) 32 32, .int .i64 dp, .int .i64 nd, .int .i64 nd, .int .u8 103, .bool true] w fun e w' => ∃ v', e = .returned v' ∧ St w0 (some gs) ds w' v' (efgV neg ds dp nd) := by
  by_cases hx : dp - 1 < -4 ∨ 6 ≤ dp - 1
  · rw [efgV, if_pos hx]
    cases neg
    · rcases (show nd = 0 ∨ nd = 1 ∨ 2 ≤ nd by omega) with hn | hn | hn
      · rcases hx with hx | hx
        · exact efg_14 _ gs ds dp nd hd hnd hdp hdp2 w0 w v h rfl hn hx
        · exact efg_15 _ gs ds dp nd hd hnd hdp hdp2 w0 w v h rfl hn hx
      · rcases hx with hx | hx
        · by_cases hy : -(dp - 1) < 10
          · exact efg_16 _ gs ds dp nd hd hnd hdp hdp2 w0 w v h rfl hn hx hy
          · by_cases hz : -(dp - 1) < 100
            · exact efg_17 _ gs ds dp nd hd hnd hdp hdp2 w0 w v h rfl hn hx hy hz
            · exact efg_18 _ gs ds dp nd hd hnd hdp hdp2 w0 w v h rfl hn hx hz
        · by_cases hy : dp - 1 < 10
          · exact efg_19 _ gs ds dp nd hd hnd hdp hdp2 w0 w v h rfl hn hx hy
          · by_cases hz : dp - 1 < 100
            · exact efg_20 _ gs ds dp nd hd hnd hdp hdp2 w0 w v h rfl hn hx hy hz
            · exact efg_21 _ gs ds dp nd hd hnd hdp hdp2 w0 w v h rfl hn hx hz
      · rcases hx with hx | hx
        · by_cases hy : -(dp - 1) < 10
          · exact efg_22 _ gs ds dp nd hd hnd hdp hdp2 w0 w v h rfl hn hx hy
          · by_cases hz : -(dp - 1) < 100
            · exact efg_23 _ gs ds dp nd hd hnd hdp hdp2 w0 w v h rfl hn hx hy hz
            · exact efg_24 _ gs ds dp nd hd hnd hdp hdp2 w0 w v h rfl hn hx hz
        · by_cases hy : dp - 1 < 10
          · exact efg_25 _ gs ds dp nd hd hnd hdp hdp2 w0 w v h rfl hn hx hy
          · by_cases hz : dp - 1 < 100
            · exact efg_26 _ gs ds dp nd hd hnd hdp hdp2 w0 w v h rfl hn hx hy hz
            · exact efg_27 _ gs ds dp nd hd hnd hdp hdp2 w0 w v h rfl hn hx hz
    · rcases (show nd = 0 ∨ nd = 1 ∨ 2 ≤ nd by omega) with hn | hn | hn
      · rcases hx with hx | hx
        · exact efg_0 _ gs ds dp nd hd hnd hdp hdp2 w0 w v h rfl hn hx
        · exact efg_1 _ gs ds dp nd hd hnd hdp hdp2 w0 w v h rfl hn hx
      · rcases hx with hx | hx
        · by_cases hy : -(dp - 1) < 10
          · exact efg_2 _ gs ds dp nd hd hnd hdp hdp2 w0 w v h rfl hn hx hy
          · by_cases hz : -(dp - 1) < 100
            · exact efg_3 _ gs ds dp nd hd hnd hdp hdp2 w0 w v h rfl hn hx hy hz
            · exact efg_4 _ gs ds dp nd hd hnd hdp hdp2 w0 w v h rfl hn hx hz
        · by_cases hy : dp - 1 < 10
          · exact efg_5 _ gs ds dp nd hd hnd hdp hdp2 w0 w v h rfl hn hx hy
          · by_cases hz : dp - 1 < 100
            · exact efg_6 _ gs ds dp nd hd hnd hdp hdp2 w0 w v h rfl hn hx hy hz
            · exact efg_7 _ gs ds dp nd hd hnd hdp hdp2 w0 w v h rfl hn hx hz
      · rcases hx with hx | hx
        · by_cases hy : -(dp - 1) < 10
          · exact efg_8 _ gs ds dp nd hd hnd hdp hdp2 w0 w v h rfl hn hx hy
          · by_cases hz : -(dp - 1) < 100
            · exact efg_9 _ gs ds dp nd hd hnd hdp hdp2 w0 w v h rfl hn hx hy hz
            · exact efg_10 _ gs ds dp nd hd hnd hdp hdp2 w0 w v h rfl hn hx hz
        · by_cases hy : dp - 1 < 10
          · exact efg_11 _ gs ds dp nd hd hnd hdp hdp2 w0 w v h rfl hn hx hy
          · by_cases hz : dp - 1 < 100
            · exact efg_12 _ gs ds dp nd hd hnd hdp hdp2 w0 w v h rfl hn hx hy hz
            · exact efg_13 _ gs ds dp nd hd hnd hdp hdp2 w0 w v h rfl hn hx hz
  · rw [efgV, if_neg hx]
    have hlo : -3 ≤ dp := by omega
    have hhi : dp ≤ 6 := by omega
    have key : ∀ (neg : Bool) (l : List Int), l = fV neg ds dp nd → Calls Tryz.prog 99 #[v, .bool neg, .slice (some ⟨gs, 0, none⟩) 32 32, .int .i64 dp, .int .i64 nd, .int .i64 nd, .int .u8 103, .bool true] w (fun e w' => ∃ v', e = .returned v' ∧ St w0 (some gs) ds w' v' l) → Calls Tryz.prog 99 #[v, .bool neg, .slice (some ⟨gs, 0, none⟩) 32 32, .int .i64 dp, .int .i64 nd, .int .i64 nd, .int .u8 103, .bool true] w (fun e w' => ∃ v', e = .returned v' ∧ St w0 (some gs) ds w' v' (fV neg ds dp nd)) := by
      intro neg l hl hc; rw [← hl]; exact hc
    by_cases hp : 0 < dp
    · obtain ⟨p, rfl⟩ : ∃ p : Nat, dp = p := ⟨dp.toNat, by omega⟩
      rcases Nat.lt_trichotomy p nd with h1 | h1 | h1
      · cases neg
        · refine key _ _ ?_ (efgf_11 _ gs ds p nd hd hnd (by omega) (by omega) h1 w0 w v h rfl)
          simp [fV, sgnF, intF, fracF, show 0 < p by omega, h1, Nat.min_eq_right (Nat.le_of_lt h1)]
        · refine key _ _ ?_ (efgf_0 _ gs ds p nd hd hnd (by omega) (by omega) h1 w0 w v h rfl)
          simp [fV, sgnF, intF, fracF, show 0 < p by omega, h1, Nat.min_eq_right (Nat.le_of_lt h1)]
      · cases neg
        · refine key _ _ ?_ (efgf_12 _ gs ds p nd hd hnd (by omega) (by omega) h1 w0 w v h rfl)
          subst h1; simp [fV, sgnF, intF, fracF, show 0 < p by omega]
        · refine key _ _ ?_ (efgf_1 _ gs ds p nd hd hnd (by omega) (by omega) h1 w0 w v h rfl)
          subst h1; simp [fV, sgnF, intF, fracF, show 0 < p by omega]
      · cases neg
        · refine key _ _ ?_ (efgf_13 _ gs ds p nd hd hnd (by omega) (by omega) h1 w0 w v h rfl)
          simp [fV, sgnF, intF, fracF, show 0 < p by omega, show ¬ p < nd by omega, Nat.min_eq_left (Nat.le_of_lt h1)]
        · refine key _ _ ?_ (efgf_2 _ gs ds p nd hd hnd (by omega) (by omega) h1 w0 w v h rfl)
          simp [fV, sgnF, intF, fracF, show 0 < p by omega, show ¬ p < nd by omega, Nat.min_eq_left (Nat.le_of_lt h1)]
    · have hc : dp = 0 ∨ dp = -1 ∨ dp = -2 ∨ dp = -3 := by omega
      rcases hc with rfl | rfl | rfl | rfl
      · rcases (show nd = 0 ∨ 0 < nd by omega) with hn | hn
        · cases neg
          · refine key _ _ ?_ (efgf_14 _ gs ds nd hd hnd hn w0 w v h rfl)
            subst hn; simp [fV, sgnF, intF, fracF]
          · refine key _ _ ?_ (efgf_3 _ gs ds nd hd hnd hn w0 w v h rfl)
            subst hn; simp [fV, sgnF, intF, fracF]
        · cases neg
          · refine key _ _ ?_ (efgf_15 _ gs ds nd hd hnd hn w0 w v h rfl)
            simp [fV, sgnF, intF, fracF, hn, show (-0 : Int) < (nd : Int) by omega]
          · refine key _ _ ?_ (efgf_4 _ gs ds nd hd hnd hn w0 w v h rfl)
            simp [fV, sgnF, intF, fracF, hn, show (-0 : Int) < (nd : Int) by omega]
      · rcases (show nd = 0 ∨ 0 < nd by omega) with hn | hn
        · cases neg
          · refine key _ _ ?_ (efgf_19 _ gs ds nd hd hnd hn w0 w v h rfl)
            subst hn; simp [fV, sgnF, intF, fracF]
          · refine key _ _ ?_ (efgf_8 _ gs ds nd hd hnd hn w0 w v h rfl)
            subst hn; simp [fV, sgnF, intF, fracF]
        · cases neg
          · refine key _ _ ?_ (efgf_16 _ gs ds nd hd hnd hn w0 w v h rfl)
            simp [fV, sgnF, intF, fracF, hn, show (-1 : Int) < (nd : Int) by omega]
          · refine key _ _ ?_ (efgf_5 _ gs ds nd hd hnd hn w0 w v h rfl)
            simp [fV, sgnF, intF, fracF, hn, show (-1 : Int) < (nd : Int) by omega]
      · rcases (show nd = 0 ∨ 0 < nd by omega) with hn | hn
        · cases neg
          · refine key _ _ ?_ (efgf_20 _ gs ds nd hd hnd hn w0 w v h rfl)
            subst hn; simp [fV, sgnF, intF, fracF]
          · refine key _ _ ?_ (efgf_9 _ gs ds nd hd hnd hn w0 w v h rfl)
            subst hn; simp [fV, sgnF, intF, fracF]
        · cases neg
          · refine key _ _ ?_ (efgf_17 _ gs ds nd hd hnd hn w0 w v h rfl)
            simp [fV, sgnF, intF, fracF, hn, show (-2 : Int) < (nd : Int) by omega]
          · refine key _ _ ?_ (efgf_6 _ gs ds nd hd hnd hn w0 w v h rfl)
            simp [fV, sgnF, intF, fracF, hn, show (-2 : Int) < (nd : Int) by omega]
      · rcases (show nd = 0 ∨ 0 < nd by omega) with hn | hn
        · cases neg
          · refine key _ _ ?_ (efgf_21 _ gs ds nd hd hnd hn w0 w v h rfl)
            subst hn; simp [fV, sgnF, intF, fracF]
          · refine key _ _ ?_ (efgf_10 _ gs ds nd hd hnd hn w0 w v h rfl)
            subst hn; simp [fV, sgnF, intF, fracF]
        · cases neg
          · refine key _ _ ?_ (efgf_18 _ gs ds nd hd hnd hn w0 w v h rfl)
            simp [fV, sgnF, intF, fracF, hn, show (-3 : Int) < (nd : Int) by omega]
          · refine key _ _ ?_ (efgf_7 _ gs ds nd hd hnd hn w0 w v h rfl)
            simp [fV, sgnF, intF, fracF, hn, show (-3 : Int) < (nd : Int) by omega]
end Go.Proofs.YtjleceekccehoaaGreatDoor.Pr
