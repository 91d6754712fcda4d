/- Reading the bytes of a list of items, in plain Lean. No program here. -/
import Derived.Test.YtibddmnfplmonaaPe
namespace Go.Proofs.Ytibddmnfplmonaa

/-- An entry's item. -/
def dec1 (b : List UInt8) : It := ⟨(val (b.take 8) : Int), (val ((b.drop 8).take 4) : Int), (val ((b.drop 12).take 4) : Int), (val ((b.drop 16).take 4) : Int)⟩
/-- The items behind acc, or the error's number. -/
def decF : Nat → List UInt8 → List It → Int × List It
  | 0, _, acc => (0, acc)
  | n + 1, b, acc => if b.length = 0 then (0, acc) else if b.length < 24 then (4, []) else if ck (b.take 20) = (b.drop 20).take 4 then decF n (b.drop 24) (acc ++ [dec1 b]) else (5, [])
theorem decF_nil (n : Nat) (b : List UInt8) (acc : List It) (h : b.length = 0) : decF n b acc = (0, acc) := by
  cases n with
  | zero => rfl
  | succ n => unfold decF; rw [if_pos h]
theorem decF_short (n : Nat) (b : List UInt8) (acc : List It) (h0 : b.length ≠ 0) (h : b.length < 24) : decF (n + 1) b acc = (4, []) := by
  unfold decF; rw [if_neg h0, if_pos h]
theorem decF_check (n : Nat) (b : List UInt8) (acc : List It) (h0 : b.length ≠ 0) (h : ¬ b.length < 24) (h2 : ck (b.take 20) ≠ (b.drop 20).take 4) : decF (n + 1) b acc = (5, []) := by
  unfold decF; rw [if_neg h0, if_neg h, if_neg h2]
theorem decF_step (n : Nat) (b : List UInt8) (acc : List It) (h0 : b.length ≠ 0) (h : ¬ b.length < 24) (h2 : ck (b.take 20) = (b.drop 20).take 4) : decF (n + 1) b acc = decF n (b.drop 24) (acc ++ [dec1 b]) := by
  conv => lhs; unfold decF
  rw [if_neg h0, if_neg h, if_pos h2]
/-- The documented list, or the error's number. -/
def dec (b : List UInt8) : Int × List It := if (decF b.length b []).1 = 0 then (if vldB (decF b.length b []).2 then (0, (decF b.length b []).2) else (3, [])) else ((decF b.length b []).1, [])
theorem dec_of {b : List UInt8} {r : Int} {l : List It} (h : decF b.length b [] = (r, l)) : dec b = if r = 0 then (if vldB l then (0, l) else (3, [])) else (r, []) := by
  unfold dec; rw [h]
theorem val4_lt {l : List UInt8} (h : l.length ≤ 4) : val l < 4294967296 := by
  match l, h with
  | [], _ => simp [val]
  | [a], _ => simp only [val, List.foldl_cons, List.foldl_nil]; have := a.toNat_lt; omega
  | [a, b], _ => simp only [val, List.foldl_cons, List.foldl_nil]; have := a.toNat_lt; have := b.toNat_lt; omega
  | [a, b, c], _ => simp only [val, List.foldl_cons, List.foldl_nil]; have := a.toNat_lt; have := b.toNat_lt; have := c.toNat_lt; omega
  | [a, b, c, d], _ => simp only [val, List.foldl_cons, List.foldl_nil]; have := a.toNat_lt; have := b.toNat_lt; have := c.toNat_lt; have := d.toNat_lt; omega
end Go.Proofs.Ytibddmnfplmonaa
