/- The field with 256 elements, in plain numbers: sums, products, powers and logarithms, and their laws. No program here. -/
namespace Go.Proofs.Ytfiecgijfolfbaa.Gf

def dbl (x : Nat) : Nat := if x * 2 / 256 = 1 then x * 2 ^^^ 285 else x * 2
def mulLoop : Nat → Nat → Nat → Nat → Nat
  | 0, p, _, _ => p
  | f + 1, p, x, b => if b = 0 then p else mulLoop f (if b % 2 = 1 then p ^^^ x else p) (dbl x) (b / 2)
def mul (a b : Nat) : Nat := mulLoop 8 0 a b
def pw : Nat → Nat
  | 0 => 1
  | n + 1 => dbl (pw n)

def all (p : Nat → Bool) : Nat → Bool
  | 0 => true
  | n + 1 => p n && all p n
theorem all_spec {p : Nat → Bool} : ∀ {n : Nat}, all p n = true → ∀ i, i < n → p i = true
  | 0, _, i, h => absurd h (Nat.not_lt_zero i)
  | n + 1, h, i, hi => by
    simp only [all, Bool.and_eq_true] at h
    by_cases e : i = n
    · subst e; exact h.1
    · exact all_spec h.2 i (by omega)

/-! ### Bounds and linearity -/
theorem xor_lt {x y : Nat} (hx : x < 256) (hy : y < 256) : x ^^^ y < 256 := Nat.xor_lt_two_pow (n := 8) hx hy
theorem dbl_lt {x : Nat} (hx : x < 256) : dbl x < 256 := by
  have h : all (fun x => decide (dbl x < 256)) 256 = true := by decide +kernel
  exact of_decide_eq_true (all_spec h x hx)
theorem dbl_ge (x : Nat) (h : x * 2 / 256 = 1) : dbl x = x * 2 ^^^ 285 := if_pos h
theorem dbl_lo (x : Nat) (h : ¬ x * 2 / 256 = 1) : dbl x = x * 2 := if_neg h
theorem dbl_xor {x y : Nat} (hx : x < 256) (hy : y < 256) : dbl (x ^^^ y) = dbl x ^^^ dbl y := by
  have h : all (fun x => all (fun y => dbl (x ^^^ y) == dbl x ^^^ dbl y) 256) 256 = true := by decide +kernel
  exact eq_of_beq (all_spec (all_spec h x hx) y hy)
theorem mulLoop_lt : ∀ (f p x b : Nat), p < 256 → x < 256 → mulLoop f p x b < 256
  | 0, _, _, _, hp, _ => hp
  | f + 1, p, x, b, hp, hx => by
    unfold mulLoop
    split
    · exact hp
    · refine mulLoop_lt f _ _ _ ?_ (dbl_lt hx)
      split
      · exact xor_lt hp hx
      · exact hp
theorem mul_lt {a : Nat} (b : Nat) (ha : a < 256) : mul a b < 256 := mulLoop_lt 8 0 a b (by decide) ha
theorem mulLoop_zero (f p x : Nat) : mulLoop f p x 0 = p := by cases f <;> simp [mulLoop]
theorem mulLoop_xor : ∀ (f p q x y b : Nat), x < 256 → y < 256 → mulLoop f (p ^^^ q) (x ^^^ y) b = mulLoop f p x b ^^^ mulLoop f q y b
  | 0, _, _, _, _, _, _, _ => rfl
  | f + 1, p, q, x, y, b, hx, hy => by
    unfold mulLoop
    by_cases hb : b = 0
    · simp [hb]
    · rw [if_neg hb, if_neg hb, if_neg hb, dbl_xor hx hy]
      rw [← mulLoop_xor f _ _ _ _ _ (dbl_lt hx) (dbl_lt hy)]
      congr 1
      by_cases h2 : b % 2 = 1
      · rw [if_pos h2, if_pos h2, if_pos h2]
        rw [Nat.xor_assoc, Nat.xor_assoc, ← Nat.xor_assoc q, ← Nat.xor_assoc x, Nat.xor_comm q x]
      · rw [if_neg h2, if_neg h2, if_neg h2]
theorem mul_xor_left {x y : Nat} (b : Nat) (hx : x < 256) (hy : y < 256) : mul (x ^^^ y) b = mul x b ^^^ mul y b := by
  have := mulLoop_xor 8 0 0 x y b hx hy
  simpa [mul] using this
theorem mul_comm {a b : Nat} (ha : a < 256) (hb : b < 256) : mul a b = mul b a := by
  have h : all (fun a => all (fun b => mul a b == mul b a) 256) 256 = true := by decide +kernel
  exact eq_of_beq (all_spec (all_spec h a ha) b hb)
theorem mul_xor_right {a x y : Nat} (ha : a < 256) (hx : x < 256) (hy : y < 256) : mul a (x ^^^ y) = mul a x ^^^ mul a y := by
  rw [mul_comm ha (xor_lt hx hy), mul_xor_left a hx hy, mul_comm hx ha, mul_comm hy ha]
theorem split_bit (k : Nat) (hk : k < 8) (x : Nat) (h : ¬ x < 2 ^ k) (h' : x < 2 ^ (k + 1)) : x = 2 ^ k ^^^ (x - 2 ^ k) := by
  have hd : all (fun k => all (fun x => decide (x < 2 ^ k) || !decide (x < 2 ^ (k + 1)) || (x == 2 ^ k ^^^ (x - 2 ^ k))) 256) 8 = true := by decide +kernel
  have := all_spec (all_spec hd k hk) x (Nat.lt_of_lt_of_le h' (Nat.pow_le_pow_right (by decide) (show k + 1 ≤ 8 by omega)))
  simpa [h, h'] using this
/-- Two additive functions that agree at the powers of two agree. -/
theorem additive_ext (f g : Nat → Nat) (hf : ∀ x y, x < 256 → y < 256 → f (x ^^^ y) = f x ^^^ f y) (hg : ∀ x y, x < 256 → y < 256 → g (x ^^^ y) = g x ^^^ g y)
    (h : ∀ i, i < 8 → f (2 ^ i) = g (2 ^ i)) : ∀ x, x < 256 → f x = g x := by
  have key : ∀ k, k ≤ 8 → ∀ x, x < 2 ^ k → f x = g x := by
    intro k
    induction k with
    | zero =>
      intro _ x hx
      have : x = 0 := by simpa using hx
      subst this
      have h1 := hf 0 0 (by decide) (by decide)
      have h2 := hg 0 0 (by decide) (by decide)
      simp only [Nat.xor_self] at h1 h2
      rw [h1, h2]
    | succ k ih =>
      intro hk x hx
      by_cases hlt : x < 2 ^ k
      · exact ih (by omega) x hlt
      · have hp : 2 ^ k < 256 := Nat.pow_lt_pow_right (by decide) (show k < 8 by omega)
        have hs : x - 2 ^ k < 2 ^ k := by rw [Nat.pow_succ] at hx; omega
        have hx' : x = 2 ^ k ^^^ (x - 2 ^ k) := split_bit k (by omega) x hlt hx
        rw [hx', hf _ _ hp (by omega), hg _ _ hp (by omega), h k (by omega), ih (by omega) _ hs]
  exact fun x hx => key 8 (by decide) x hx
end Go.Proofs.Ytfiecgijfolfbaa.Gf
