/- The walks over the checksum, the program's and the reference's. -/
import Derived.Test.YtibddmnfplmonaaIt
import Derived.Test.YtibddmnfplmonaaPc
import Derived.Test.YtibddmnfplmonaaPn
import Derived.Laws.BitsAllLaws
namespace Go.Proofs.Ytibddmnfplmonaa
open Go.RowKit

theorem low_bit (r : Nat) (h : r < 4294967296) : bits .and .u32 (r : Int) 1 = ((r % 2 : Nat) : Int) := by
  have := u32_and_nat r 1 h (by decide)
  rw [show ((1 : Nat) : Int) = 1 from rfl] at this
  rw [this, Nat.and_one_is_mod]
theorem xor_poly (r : Nat) (h : r < 4294967296) : bits .xor .u32 (r : Int) 2197175160 = ((r ^^^ Crc.poly : Nat) : Int) := by
  have := u32_xor_nat r 2197175160 h (by decide)
  rwa [show ((2197175160 : Nat) : Int) = 2197175160 from rfl] at this
theorem RdB.shape0 {w : World} {v : Value} {l : List UInt8} (h : RdB w v l) : ∃ a cap, v = .slice a l.length cap ∧ l.length ≤ cap ∧ cap ≤ maxLen := by
  obtain ⟨a, cap, h1, h2, h3, _⟩ := RdL.shape h 0
  exact ⟨a, cap, h1, h2, h3⟩
theorem RdB.at {w : World} {a : Option Addr} {n cap : Nat} {l : List UInt8} (h : RdB w (.slice a n cap) l) {j : Nat} (hj : j < n) : ∃ b off, a = some ⟨b, off, none⟩ ∧ w.cell? ⟨b, off + j, none⟩ = some (.int .u8 ((bat l j).toNat : Int)) := by
  obtain ⟨a', cap', e, h2, h3, _, h5⟩ := RdL.shape h 0
  injection e with e1 e2 e3
  subst e1 e2 e3
  obtain ⟨b, off, e, hc⟩ := h5 (by omega)
  exact ⟨b, off, e, hc j hj⟩
theorem xor_byte (r : Nat) (x : UInt8) (h : r < 4294967296) : bits .xor .u32 (r : Int) (x.toNat : Int) = ((r ^^^ x.toNat : Nat) : Int) := u32_xor_nat r x.toNat h (by have := x.toNat_lt; omega)
theorem not_nat (c : Nat) (h : c < 4294967296) : 4294967295 ^^^ c = 4294967295 - c := by
  have h1 : (BitVec.allOnes 32 ^^^ BitVec.ofNat 32 c).toNat = (~~~(BitVec.ofNat 32 c)).toNat := by rw [BitVec.allOnes_xor]
  rw [BitVec.toNat_xor, BitVec.toNat_not, BitVec.toNat_ofNat, Nat.mod_eq_of_lt (show c < 2 ^ 32 by omega), BitVec.toNat_allOnes] at h1
  exact h1
theorem not_u32 (c : Nat) (h : c < 4294967296) : bits .xor .u32 IntKind.u32.max (c : Int) = ((4294967295 - c : Nat) : Int) := by
  have := u32_xor_nat 4294967295 c (by decide) h
  rw [not_nat c h] at this
  exact this
end Go.Proofs.Ytibddmnfplmonaa
