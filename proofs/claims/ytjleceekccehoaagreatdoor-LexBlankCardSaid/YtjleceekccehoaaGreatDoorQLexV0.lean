/- Texts of this session, cut down to what one claim needs and joined: LexV0. -/
import Derived.Test.YtjleceekccehoaaGreatDoorProg
import Derived.WalkKit
import Derived.WalkMore
import Derived.BigQuiet
import Derived.Lib.ValidAsc
import Derived.Lib.EndianBits
import Derived.Laws.BitsAllLaws
import Derived.Outline
set_option linter.unusedVariables false
set_option linter.unusedSimpArgs false
namespace Go.Proofs.YtjleceekccehoaaGreatDoor.Pr
open Go.RowKit

/-- The bytes t stand in block g of w from o on. -/
def BsM (w : World) (g o : Nat) (t : ByteArray) : Prop := ∀ (j : Nat) (h : j < t.size), w.cell? ⟨g, o + j, none⟩ = some (.int .u8 ((t[j]'h).toNat : Nat))
theorem BsM.get {w : World} {g o : Nat} {t : ByteArray} (h : BsM w g o t) (j : Nat) (hj : j < t.size) : w.cell? ⟨g, o + j, none⟩ = some (.int .u8 ((t.get! j).toNat : Nat)) := by
  have := h j hj
  rw [show t.get! j = t[j]'hj from by simp [ByteArray.get!, ByteArray.getElem_eq_getElem_data, hj]]
  exact this
set_option maxHeartbeats 4000000 in
set_option maxRecDepth 100000 in
theorem u8word_any (t : ByteArray) (ht : 8 ≤ t.size) (g o c : Nat) (w : World) (hM : BsM w g o t) :
    Calls Tryz.prog 113 #[.slice (some ⟨g, o, none⟩) t.size c] w fun e w' => e = .returned (.int .u64 (Lib.leNat [t.get! 0, t.get! 1, t.get! 2, t.get! 3, t.get! 4, t.get! 5, t.get! 6, t.get! 7])) ∧ ∃ q, w' = w.drewN q := by
  have m0 := hM.get 0 (by omega)
  have m1 := hM.get 1 (by omega)
  have m2 := hM.get 2 (by omega)
  have m3 := hM.get 3 (by omega)
  have m4 := hM.get 4 (by omega)
  have m5 := hM.get 5 (by omega)
  have m6 := hM.get 6 (by omega)
  have m7 := hM.get 7 (by omega)
  have h0 := (t.get! 0).toNat_lt
  have h1 := (t.get! 1).toNat_lt
  have h2 := (t.get! 2).toNat_lt
  have h3 := (t.get! 3).toNat_lt
  have h4 := (t.get! 4).toNat_lt
  have h5 := (t.get! 5).toNat_lt
  have h6 := (t.get! 6).toNat_lt
  have h7 := (t.get! 7).toNat_lt
  obtain ⟨n, hn⟩ : ∃ n, t.size = n := ⟨_, rfl⟩
  rw [hn] at ht ⊢
  have hv : ((Lib.leNat [t.get! 0, t.get! 1, t.get! 2, t.get! 3, t.get! 4, t.get! 5, t.get! 6, t.get! 7] : Nat) : Int) = ((t.get! 0).toNat : Int) + ((t.get! 1).toNat : Int) * 256 + ((t.get! 2).toNat : Int) * 65536 + ((t.get! 3).toNat : Int) * 16777216 + ((t.get! 4).toNat : Int) * 4294967296 + ((t.get! 5).toNat : Int) * 1099511627776 + ((t.get! 6).toNat : Int) * 281474976710656 + ((t.get! 7).toNat : Int) * 72057594037927936 := by
    simp only [Lib.leNat]
    omega
  rw [hv]
  generalize (t.get! 0).toNat = x0 at *
  generalize (t.get! 1).toNat = x1 at *
  generalize (t.get! 2).toNat = x2 at *
  generalize (t.get! 3).toNat = x3 at *
  generalize (t.get! 4).toNat = x4 at *
  generalize (t.get! 5).toNat = x5 at *
  generalize (t.get! 6).toNat = x6 at *
  generalize (t.get! 7).toNat = x7 at *
  have q0 : (0 : Int) < (n : Int) := by omega
  have q1 : (1 : Int) < (n : Int) := by omega
  have q2 : (2 : Int) < (n : Int) := by omega
  have q3 : (3 : Int) < (n : Int) := by omega
  have q4 : (4 : Int) < (n : Int) := by omega
  have q5 : (5 : Int) < (n : Int) := by omega
  have q6 : (6 : Int) < (n : Int) := by omega
  have q7 : (7 : Int) < (n : Int) := by omega
  clear hM hv hn ht
  rw [Nat.add_zero] at m0
  go_enter Tryz.func113, Tryz.ntmps113
  go_wp2_with fail
  go_quiet (fail)
  go_wp2_with fail
  go_ret
  refine ⟨?_, _, rfl⟩
  show Ending.returned (Value.int IntKind.u64 _) = _
  congr 2
  simp (disch := omega) only [u64_or8, u64_or16, u64_or24, u64_or32, u64_or40, u64_or48, u64_or56]
end Go.Proofs.YtjleceekccehoaaGreatDoor.Pr
