/- Numbers as bytes, the most significant one first, in plain Lean. No program here. -/
namespace Go.Proofs.Ytibddmnfplmonaa

/-- The byte at a place; 0 where there is none. -/
def bat (l : List UInt8) (j : Nat) : UInt8 := l.getD j 0
theorem btake_snoc {l : List UInt8} {j : Nat} (h : j < l.length) : l.take (j + 1) = l.take j ++ [bat l j] := by
  rw [List.take_succ_eq_append_getElem h]
  congr
  unfold bat
  rw [List.getD_eq_getElem?_getD, List.getElem?_eq_getElem h]; rfl
/-- The last n bytes of v. -/
def be (v n : Nat) : List UInt8 := (List.range n).map fun j => UInt8.ofNat (v / 2 ^ (8 * (n - 1 - j)))
theorem be_length (v n : Nat) : (be v n).length = n := by simp [be]
theorem be_at {v n j : Nat} (h : j < n) : bat (be v n) j = UInt8.ofNat (v / 2 ^ (8 * (n - 1 - j))) := by
  unfold bat be
  rw [List.getD_eq_getElem?_getD, List.getElem?_map, List.getElem?_range h]; rfl
/-- The number that bytes are, in 64 bits. -/
def val (l : List UInt8) : Nat := l.foldl (fun n x => (n * 256 + x.toNat) % 18446744073709551616) 0
theorem val_snoc (l : List UInt8) (x : UInt8) : val (l ++ [x]) = (val l * 256 + x.toNat) % 18446744073709551616 := by simp [val]
theorem val_lt (l : List UInt8) : val l < 18446744073709551616 := by
  rcases List.eq_nil_or_concat l with rfl | ⟨r, x, rfl⟩
  · simp [val]
  · rw [List.concat_eq_append, val_snoc]; omega
theorem val_or (v : Nat) (x : UInt8) : (v * 256 % 18446744073709551616) ||| x.toNat = (v * 256 + x.toNat) % 18446744073709551616 := by
  have hx := x.toNat_lt
  have e : v * 256 % 18446744073709551616 = 2 ^ 8 * (v % 72057594037927936) := by omega
  rw [e, ← Nat.two_pow_add_eq_or_of_lt (i := 8) (by omega)]
  omega
/-- Four bytes of a number, the least significant one first. -/
def le4 (c : Nat) : List UInt8 := [UInt8.ofNat c, UInt8.ofNat (c / 2 ^ 8), UInt8.ofNat (c / 2 ^ 16), UInt8.ofNat (c / 2 ^ 24)]
end Go.Proofs.Ytibddmnfplmonaa
