/- The checksum CRC-32C, in plain numbers. No program here. -/
namespace Go.Proofs.Ytibddmnfplmonaa.Crc

def poly : Nat := 2197175160
def st (r : Nat) : Nat := if r % 2 = 1 then (r / 2) ^^^ poly else r / 2
theorem st_lt {r : Nat} (h : r < 4294967296) : st r < 4294967296 := by
  unfold st
  split
  · exact Nat.xor_lt_two_pow (n := 32) (by omega) (by unfold poly; omega)
  · omega
def stk : Nat → Nat → Nat
  | 0, r => r
  | k + 1, r => st (stk k r)
theorem stk_lt {r : Nat} (h : r < 4294967296) : ∀ k, stk k r < 4294967296
  | 0 => h
  | k + 1 => st_lt (stk_lt h k)
def add (r : Nat) (x : UInt8) : Nat := stk 8 (r ^^^ x.toNat)
theorem xor_lt {r s : Nat} (h : r < 4294967296) (hs : s < 4294967296) : r ^^^ s < 4294967296 := Nat.xor_lt_two_pow (n := 32) h hs
theorem add_lt {r : Nat} (h : r < 4294967296) (x : UInt8) : add r x < 4294967296 := stk_lt (xor_lt h (by have := x.toNat_lt; omega)) 8
def ext (r : Nat) (l : List UInt8) : Nat := l.foldl add r
theorem ext_lt : ∀ (l : List UInt8) {r : Nat}, r < 4294967296 → ext r l < 4294967296
  | [], _, h => h
  | x :: l, _, h => ext_lt l (add_lt h x)
theorem ext_snoc (r : Nat) (l : List UInt8) (x : UInt8) : ext r (l ++ [x]) = add (ext r l) x := by simp [ext]
/-- The checksum. -/
def sum (l : List UInt8) : Nat := 4294967295 - ext 4294967295 l
theorem sum_lt (l : List UInt8) : sum l < 4294967296 := by unfold sum; omega
end Go.Proofs.Ytibddmnfplmonaa.Crc
