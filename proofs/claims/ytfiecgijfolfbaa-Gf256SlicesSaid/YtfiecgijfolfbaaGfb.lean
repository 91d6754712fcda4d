/- The field with 256 elements, in plain numbers, second part: associativity, powers of 2, logarithms, inverses, squares. No program here. -/
import Derived.Test.YtfiecgijfolfbaaGf
namespace Go.Proofs.Ytfiecgijfolfbaa.Gf

theorem pow_lt (i : Nat) (h : i < 8) : 2 ^ i < 256 := Nat.pow_lt_pow_right (by decide) (show i < 8 from h)
theorem mul_assoc {a b c : Nat} (ha : a < 256) (hb : b < 256) (hc : c < 256) : mul (mul a b) c = mul a (mul b c) := by
  have base : all (fun i => all (fun j => all (fun k => mul (mul (2 ^ i) (2 ^ j)) (2 ^ k) == mul (2 ^ i) (mul (2 ^ j) (2 ^ k))) 8) 8) 8 = true := by decide +kernel
  have h1 : ∀ i, i < 8 → ∀ j, j < 8 → ∀ z, z < 256 → mul (mul (2 ^ i) (2 ^ j)) z = mul (2 ^ i) (mul (2 ^ j) z) := by
    intro i hi j hj
    refine additive_ext _ _ ?_ ?_ ?_
    · intro x y hx hy; exact mul_xor_right (mul_lt _ (pow_lt i hi)) hx hy
    · intro x y hx hy
      rw [mul_xor_right (pow_lt j hj) hx hy]
      exact mul_xor_right (pow_lt i hi) (mul_lt _ (pow_lt j hj)) (mul_lt _ (pow_lt j hj))
    · intro k hk; exact eq_of_beq (all_spec (all_spec (all_spec base i hi) j hj) k hk)
  have h2 : ∀ i, i < 8 → ∀ y, y < 256 → mul (mul (2 ^ i) y) c = mul (2 ^ i) (mul y c) := by
    intro i hi
    refine additive_ext _ _ ?_ ?_ ?_
    · intro x y hx hy
      rw [mul_xor_right (pow_lt i hi) hx hy]
      exact mul_xor_left _ (mul_lt _ (pow_lt i hi)) (mul_lt _ (pow_lt i hi))
    · intro x y hx hy
      rw [mul_xor_left _ hx hy]
      exact mul_xor_right (pow_lt i hi) (mul_lt _ hx) (mul_lt _ hy)
    · intro j hj; exact h1 i hi j hj c hc
  refine additive_ext (fun a => mul (mul a b) c) (fun a => mul a (mul b c)) ?_ ?_ ?_ a ha
  · intro x y hx hy
    show mul (mul (x ^^^ y) b) c = _
    rw [mul_xor_left _ hx hy]
    exact mul_xor_left _ (mul_lt _ hx) (mul_lt _ hy)
  · intro x y hx hy; exact mul_xor_left _ hx hy
  · intro i hi; exact h2 i hi b hb
theorem mul_one {a : Nat} (ha : a < 256) : mul a 1 = a := by
  have h : all (fun a => mul a 1 == a) 256 = true := by decide +kernel
  exact eq_of_beq (all_spec h a ha)
theorem mul_two {a : Nat} (ha : a < 256) : mul a 2 = dbl a := by
  have h : all (fun a => mul a 2 == dbl a) 256 = true := by decide +kernel
  exact eq_of_beq (all_spec h a ha)
theorem mul_zero (a : Nat) : mul a 0 = 0 := mulLoop_zero 8 0 a
theorem zero_mul {b : Nat} (hb : b < 256) : mul 0 b = 0 := by rw [mul_comm (by decide) hb, mul_zero]

/-! ### Powers of 2 and logarithms -/
theorem pw_lt : ∀ n, pw n < 256
  | 0 => by decide
  | n + 1 => dbl_lt (pw_lt n)
theorem mul_dbl {a b : Nat} (ha : a < 256) (hb : b < 256) : mul a (dbl b) = dbl (mul a b) := by
  rw [← mul_two hb, ← mul_assoc ha hb (by decide), mul_two (mul_lt _ ha)]
theorem pw_add (m : Nat) : ∀ n, pw (m + n) = mul (pw m) (pw n)
  | 0 => (mul_one (pw_lt m)).symm
  | n + 1 => by show dbl (pw (m + n)) = mul (pw m) (dbl (pw n)); rw [mul_dbl (pw_lt m) (pw_lt n), pw_add m n]
theorem pw_255 : pw 255 = 1 := by decide +kernel
theorem pw_add_255 (n : Nat) : pw (n + 255) = pw n := by rw [pw_add, pw_255, mul_one (pw_lt n)]
theorem pw_mul_255 (n : Nat) : ∀ k, pw (n + 255 * k) = pw n
  | 0 => rfl
  | k + 1 => by rw [Nat.mul_succ, ← Nat.add_assoc, pw_add_255, pw_mul_255 n k]
theorem pw_mod (n : Nat) : pw (n % 255) = pw n := by
  conv => rhs; rw [← Nat.mod_add_div n 255]
  exact (pw_mul_255 _ _).symm
theorem pw_eq {m n : Nat} (h : m % 255 = n % 255) : pw m = pw n := by rw [← pw_mod m, ← pw_mod n, h]

/-- The logarithm: the first exponent below 255 whose power is x; 0 where there is none. -/
def lgFrom : Nat → Nat → Nat → Nat
  | 0, _, _ => 0
  | f + 1, n, x => if pw n = x then n else lgFrom f (n + 1) x
def lg (x : Nat) : Nat := lgFrom 255 0 x
/-- The powers, as a list; and the logarithms by way of it, for the check of all 256 elements. -/
def pws : Nat → Nat → List Nat
  | 0, _ => []
  | f + 1, x => x :: pws f (dbl x)
def find : List Nat → Nat → Nat → Nat
  | [], _, _ => 0
  | y :: l, n, x => if y = x then n else find l (n + 1) x
theorem lgFrom_eq : ∀ (f n x : Nat), lgFrom f n x = find (pws f (pw n)) n x
  | 0, _, _ => rfl
  | f + 1, n, x => by
    unfold lgFrom pws find
    rw [lgFrom_eq f (n + 1) x]; rfl
theorem lg_eq (x : Nat) : lg x = find (pws 255 1) 0 x := lgFrom_eq 255 0 x
def nth : List Nat → Nat → Nat
  | [], _ => 0
  | y :: _, 0 => y
  | _ :: l, n + 1 => nth l n
theorem nth_pws : ∀ (f k n : Nat), k < f → nth (pws f (pw n)) k = pw (n + k)
  | 0, _, _, h => absurd h (Nat.not_lt_zero _)
  | f + 1, 0, n, _ => rfl
  | f + 1, k + 1, n, h => by
    show nth (pws f (pw (n + 1))) k = _
    rw [nth_pws f k (n + 1) (by omega)]; congr 1; omega
theorem pw_lg {a : Nat} (h0 : 0 < a) (ha : a < 256) : pw (lg a) = a ∧ lg a < 255 := by
  have h : all (fun a => a == 0 || decide (find (pws 255 1) 0 a < 255) && (nth (pws 255 1) (find (pws 255 1) 0 a) == a)) 256 = true := by decide +kernel
  have := all_spec h a ha
  have hne : (a == 0) = false := by simp; omega
  rw [hne, Bool.false_or, Bool.and_eq_true, decide_eq_true_eq, beq_iff_eq, ← lg_eq] at this
  refine ⟨?_, this.1⟩
  have hn := nth_pws 255 (lg a) 0 this.1
  rw [Nat.zero_add] at hn
  rw [← hn]; exact this.2
theorem lg_pw {n : Nat} (h : n < 255) : lg (pw n) = n := by
  have hd : all (fun n => find (pws 255 1) 0 (nth (pws 255 1) n) == n) 255 = true := by decide +kernel
  have := eq_of_beq (all_spec hd n h)
  have hn := nth_pws 255 n 0 h
  rw [Nat.zero_add] at hn
  rw [lg_eq, ← hn]; exact this
theorem lg_zero : lg 0 = 0 := by rw [lg_eq]; decide +kernel
theorem pw_pos (n : Nat) : 0 < pw n := by
  have hd : all (fun n => decide (0 < nth (pws 255 1) n)) 255 = true := by decide +kernel
  have := of_decide_eq_true (all_spec hd (n % 255) (Nat.mod_lt _ (by decide)))
  have hn := nth_pws 255 (n % 255) 0 (Nat.mod_lt _ (by decide))
  rw [Nat.zero_add] at hn
  rw [← pw_mod, ← hn]; exact this
theorem lg_lt (a : Nat) : lg a < 255 := by
  have : ∀ f n, n + f ≤ 255 → n ≤ 254 → lgFrom f n a < 255 := by
    intro f
    induction f with
    | zero => intro n _ _; show 0 < 255; decide
    | succ f ih =>
      intro n h h'
      unfold lgFrom
      split
      · omega
      · by_cases e : f = 0
        · subst e; show 0 < 255; decide
        · exact ih (n + 1) (by omega) (by omega)
  exact this 255 0 (by decide) (by decide)

/-! ### Products, inverses, squares -/
theorem mul_lg {a b : Nat} (h0 : 0 < a) (ha : a < 256) (h0' : 0 < b) (hb : b < 256) : mul a b = pw (lg a + lg b) := by
  rw [pw_add, (pw_lg h0 ha).1, (pw_lg h0' hb).1]
theorem mul_eq_zero {a b : Nat} (ha : a < 256) (hb : b < 256) : mul a b = 0 ↔ a = 0 ∨ b = 0 := by
  constructor
  · intro h
    rcases Nat.eq_zero_or_pos a with h1 | h1
    · exact .inl h1
    · rcases Nat.eq_zero_or_pos b with h2 | h2
      · exact .inr h2
      · rw [mul_lg h1 ha h2 hb] at h
        have := pw_pos (lg a + lg b); omega
  · rintro (h | h)
    · rw [h]; exact zero_mul hb
    · rw [h]; exact mul_zero a
def inv (a : Nat) : Nat := pw (255 - lg a)
theorem inv_lt (a : Nat) : inv a < 256 := pw_lt _
theorem inv_pos (a : Nat) : 0 < inv a := pw_pos _
theorem mul_inv {a : Nat} (h0 : 0 < a) (ha : a < 256) : mul a (inv a) = 1 := by
  have h := pw_lg h0 ha
  have e := pw_add (lg a) (255 - lg a)
  rw [h.1] at e
  show mul a (pw (255 - lg a)) = 1
  rw [← e, show lg a + (255 - lg a) = 255 by omega, pw_255]
theorem inv_unique {a b : Nat} (h0 : 0 < a) (ha : a < 256) (hb : b < 256) (h : mul a b = 1) : b = inv a := by
  have h1 : mul (inv a) (mul a b) = b := by
    rw [← mul_assoc (inv_lt a) ha hb, mul_comm (inv_lt a) ha, mul_inv h0 ha, mul_comm (by decide) hb, mul_one hb]
  rw [h, mul_one (inv_lt a)] at h1
  exact h1.symm
theorem inv_inv {a : Nat} (h0 : 0 < a) (ha : a < 256) : inv (inv a) = a :=
  (inv_unique (inv_pos a) (inv_lt a) ha (by rw [mul_comm (inv_lt a) ha]; exact mul_inv h0 ha)).symm
theorem mul_mul_inv {a b : Nat} (ha : a < 256) (h0 : 0 < b) (hb : b < 256) : mul (mul a b) (inv b) = a := by
  rw [mul_assoc ha hb (inv_lt b), mul_inv h0 hb, mul_one ha]
theorem sq_xor {a b : Nat} (ha : a < 256) (hb : b < 256) : mul (a ^^^ b) (a ^^^ b) = mul a a ^^^ mul b b := by
  rw [mul_xor_left _ ha hb, mul_xor_right ha ha hb, mul_xor_right hb ha hb, mul_comm hb ha]
  have : ∀ x y z : Nat, (x ^^^ y) ^^^ (y ^^^ z) = x ^^^ z := by
    intro x y z; rw [Nat.xor_assoc, ← Nat.xor_assoc y, Nat.xor_self, Nat.zero_xor]
  exact this _ _ _
theorem xor_eq_zero {x y : Nat} (h : x ^^^ y = 0) : x = y := by
  have h1 : (x ^^^ y) ^^^ y = 0 ^^^ y := by rw [h]
  rw [Nat.xor_assoc, Nat.xor_self, Nat.xor_zero, Nat.zero_xor] at h1
  exact h1
theorem sq_inj {a b : Nat} (ha : a < 256) (hb : b < 256) : mul a a = mul b b ↔ a = b := by
  constructor
  · intro h
    have h1 := sq_xor ha hb
    rw [h, Nat.xor_self] at h1
    have h2 := (mul_eq_zero (xor_lt ha hb) (xor_lt ha hb)).1 h1
    exact xor_eq_zero (h2.elim id id)
  · intro h; rw [h]

end Go.Proofs.Ytfiecgijfolfbaa.Gf
