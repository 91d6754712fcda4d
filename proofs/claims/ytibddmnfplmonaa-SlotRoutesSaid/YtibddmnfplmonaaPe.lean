/- The bytes of a list of items, in plain Lean. No program here. -/
import Derived.Test.YtibddmnfplmonaaPi
import Derived.Test.YtibddmnfplmonaaPn
import Derived.Test.YtibddmnfplmonaaPc
namespace Go.Proofs.Ytibddmnfplmonaa

/-- The checksum of bytes, as bytes. -/
def ck (l : List UInt8) : List UInt8 := le4 (Crc.sum l)
/-- The key and the cookie fit. -/
def It.Kwf (x : It) : Prop := 0 ≤ x.key ∧ x.key < 18446744073709551616 ∧ 0 ≤ x.ck ∧ x.ck < 4294967296
/-- The first twenty bytes of an entry. -/
def ent20 (x : It) : List UInt8 := be x.key.toNat 8 ++ be x.ck.toNat 4 ++ be x.off.toNat 4 ++ be x.size.toNat 4
def entB (x : It) : List UInt8 := ent20 x ++ ck (ent20 x)
/-- The bytes of a list. -/
def encB (l : List It) : List UInt8 := l.flatMap entB
theorem ent20_length (x : It) : (ent20 x).length = 20 := by simp [ent20, be_length]
theorem entB_length (x : It) : (entB x).length = 24 := by simp [entB, ent20_length, ck, le4]
theorem encB_length : ∀ l : List It, (encB l).length = 24 * l.length
  | [] => rfl
  | x :: l => by
    have := encB_length l
    unfold encB at *
    rw [List.flatMap_cons, List.length_append, entB_length, this, List.length_cons]; omega
theorem encB_snoc (l : List It) (x : It) : encB (l ++ [x]) = encB l ++ entB x := by simp [encB]
end Go.Proofs.Ytibddmnfplmonaa
