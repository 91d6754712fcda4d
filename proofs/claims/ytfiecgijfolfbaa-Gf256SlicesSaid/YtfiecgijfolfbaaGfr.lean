/- The reference's product, in plain numbers: the product without carry, reduced from the top; it is the product. No program here. -/
import Derived.Test.YtfiecgijfolfbaaGfb
namespace Go.Proofs.Ytfiecgijfolfbaa.Gf

def cl (a b : Nat) : Nat → Nat
  | 0 => 0
  | k + 1 => if b / 2 ^ k % 2 = 1 then cl a b k ^^^ a * 2 ^ k else cl a b k
/-- j rounds of the reduction, from bit 14 on. -/
def red (p : Nat) : Nat → Nat
  | 0 => p
  | j + 1 => if red p j / 2 ^ (14 - j) % 2 = 1 then red p j ^^^ 285 * 2 ^ (14 - j - 8) else red p j
theorem cl_lt {a : Nat} (b : Nat) (ha : a < 256) : ∀ k, k ≤ 8 → cl a b k < 32768
  | 0, _ => by show 0 < 32768; decide
  | k + 1, h => by
    have ih := cl_lt b ha k (by omega)
    unfold cl
    split
    · have h1 : a * 2 ^ k < 2 ^ 15 := by
        have : 2 ^ k ≤ 2 ^ 7 := Nat.pow_le_pow_right (by decide) (by omega)
        have h2 := Nat.mul_le_mul (show a ≤ 255 by omega) this
        have h3 : 255 * 2 ^ 7 < 2 ^ 15 := by decide
        omega
      exact Nat.xor_lt_two_pow (n := 15) ih h1
    · exact ih
theorem red_lt {p : Nat} (hp : p < 32768) : ∀ j, j ≤ 7 → red p j < 32768
  | 0, _ => hp
  | j + 1, h => by
    have ih := red_lt hp j (by omega)
    unfold red
    split
    · have h1 : 285 * 2 ^ (14 - j - 8) < 2 ^ 15 := by
        have : 2 ^ (14 - j - 8) ≤ 2 ^ 6 := Nat.pow_le_pow_right (by decide) (by omega)
        have h2 := Nat.mul_le_mul_left 285 this
        have h3 : 285 * 2 ^ 6 < 2 ^ 15 := by decide
        omega
      exact Nat.xor_lt_two_pow (n := 15) ih h1
    · exact ih
def sel (t : Bool) (v : Nat) : Nat := if t then v else 0
theorem sel_xor (s t : Bool) (v : Nat) : sel (s ^^ t) v = sel s v ^^^ sel t v := by cases s <;> cases t <;> simp [sel]
theorem sel_add (t : Bool) (u v : Nat) : sel t (u ^^^ v) = sel t u ^^^ sel t v := by cases t <;> simp [sel]
theorem sel_if (x k u v : Nat) : (if x / 2 ^ k % 2 = 1 then u ^^^ v else u) = u ^^^ sel (x.testBit k) v := by
  rw [Nat.testBit_eq_decide_div_mod_eq]
  by_cases h : x / 2 ^ k % 2 = 1 <;> simp [h, sel]
theorem xor4 (a b c d : Nat) : (a ^^^ b) ^^^ (c ^^^ d) = (a ^^^ c) ^^^ (b ^^^ d) := by
  rw [Nat.xor_assoc, Nat.xor_assoc, ← Nat.xor_assoc b, ← Nat.xor_assoc c, Nat.xor_comm b c]
theorem cl_succ (a b k : Nat) : cl a b (k + 1) = cl a b k ^^^ sel (b.testBit k) (a * 2 ^ k) := sel_if b k _ _
theorem red_succ (p j : Nat) : red p (j + 1) = red p j ^^^ sel ((red p j).testBit (14 - j)) (285 * 2 ^ (14 - j - 8)) := sel_if _ _ _ _
theorem shift_xor (x y k : Nat) : (x ^^^ y) * 2 ^ k = x * 2 ^ k ^^^ y * 2 ^ k := by
  simp only [← Nat.shiftLeft_eq]; exact Nat.shiftLeft_xor_distrib
theorem cl_left (x y b : Nat) : ∀ k, cl (x ^^^ y) b k = cl x b k ^^^ cl y b k
  | 0 => by simp [cl]
  | k + 1 => by rw [cl_succ, cl_succ, cl_succ, cl_left x y b k, shift_xor, sel_add, xor4]
theorem cl_right (a x y : Nat) : ∀ k, cl a (x ^^^ y) k = cl a x k ^^^ cl a y k
  | 0 => by simp [cl]
  | k + 1 => by rw [cl_succ, cl_succ, cl_succ, cl_right a x y k, Nat.testBit_xor, sel_xor, xor4]
theorem red_xor (p q : Nat) : ∀ j, red (p ^^^ q) j = red p j ^^^ red q j
  | 0 => rfl
  | j + 1 => by rw [red_succ, red_succ, red_succ, red_xor p q j, Nat.testBit_xor, sel_xor, xor4]
theorem ref_mul {a b : Nat} (ha : a < 256) (hb : b < 256) : red (cl a b 8) 7 % 256 = mul a b := by
  have base : all (fun i => all (fun j => red (cl (2 ^ i) (2 ^ j) 8) 7 % 256 == mul (2 ^ i) (2 ^ j)) 8) 8 = true := by decide +kernel
  have h1 : ∀ i, i < 8 → ∀ y, y < 256 → red (cl (2 ^ i) y 8) 7 % 256 = mul (2 ^ i) y := by
    intro i hi
    refine additive_ext _ _ ?_ ?_ ?_
    · intro x y _ _
      rw [cl_right, red_xor]; exact Nat.xor_mod_two_pow (n := 8)
    · intro x y hx hy; exact mul_xor_right (pow_lt i hi) hx hy
    · intro j hj; exact eq_of_beq (all_spec (all_spec base i hi) j hj)
  refine additive_ext (fun a => red (cl a b 8) 7 % 256) (fun a => mul a b) ?_ ?_ ?_ a ha
  · intro x y _ _
    show red (cl (x ^^^ y) b 8) 7 % 256 = _
    rw [cl_left, red_xor]; exact Nat.xor_mod_two_pow (n := 8)
  · intro x y hx hy; exact mul_xor_left b hx hy
  · intro i hi; exact h1 i hi b hb
end Go.Proofs.Ytfiecgijfolfbaa.Gf
