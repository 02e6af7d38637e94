/- math/bits: Len32 and LeadingZeros32, from the shelf; and what they mean. -/
import Derived.Test.YtnedhbidmfoegaaGreatNatD
import Derived.Shelf.Lay
import Derived.Shelf.Small.Bits
import Derived.Ground.Names2Prog
import Derived.Lib.ItoaNum
namespace Go.Proofs
open Go.Shelf
shelf_lay Lays.n128 Nm 128 at Tryz as Tryz.lays128
shelf_lay Lays.n133 Nm 133 at Tryz as Tryz.lays133
end Go.Proofs
namespace Go.Proofs.YtnedhbidmfoegaaGreat
open Go.RowKit

theorem Len32_any (x : Int) (w : World) (h0 : 0 ≤ x) (h1 : x < 4294967296) :
    Calls Tryz.prog 213 #[.int .u32 x] w fun e w' => e = .returned (.int .i64 (Lib.bitLen x.toNat)) ∧ w' = w := Any.bits_Len32 Tryz.lays128 x w h0 (by omega)
theorem LeadingZeros32_any (x : Int) (w : World) (h0 : 0 ≤ x) (h1 : x < 4294967296) :
    Calls Tryz.prog 204 #[.int .u32 x] w fun e w' => e = .returned (.int .i64 (32 - (Lib.bitLen x.toNat : Int))) ∧ w' = w := Any.bits_LeadingZeros32 Tryz.lays133 x w h0 (by omega)
/-- The shift that brings a digit's highest bit to the top. -/
theorem lz_spec {x : Nat} (h0 : 0 < x) (h1 : x < 4294967296) : ∃ s : Nat, 32 - (Lib.bitLen x : Int) = s ∧ s < 32 ∧ 2147483648 ≤ x * 2 ^ s ∧ x * 2 ^ s < 4294967296 := by
  have hb : 1 ≤ Lib.bitLen x ∧ 2 ^ (Lib.bitLen x - 1) ≤ x ∧ x < 2 ^ Lib.bitLen x := Lib.bitLenAux_bounds 64 x (by omega) (by omega)
  have hl : Lib.bitLen x ≤ 32 := Lib.bitLen_le x 32 (by omega) (by omega)
  generalize Lib.bitLen x = b at *
  obtain ⟨p1, p2, p3⟩ := hb
  have k1 : 2 ^ (b - 1) * 2 ^ (32 - b) = 2147483648 := by rw [← Nat.pow_add, show b - 1 + (32 - b) = 31 by omega]
  have k2 : 2 ^ b * 2 ^ (32 - b) = 4294967296 := by rw [← Nat.pow_add, show b + (32 - b) = 32 by omega]
  have hp : 0 < 2 ^ (32 - b) := Nat.pow_pos (by omega)
  refine ⟨32 - b, by omega, by omega, ?_, ?_⟩
  · rw [← k1]; exact Nat.mul_le_mul_right _ p2
  · rw [← k2]; exact Nat.mul_lt_mul_of_pos_right p3 hp
end Go.Proofs.YtnedhbidmfoegaaGreat
