/- A burst of up to 32 bits in an entry is seen by the checksum, in plain numbers. No program here. -/
import Derived.Test.YtecflhklpkjhcaaPb
namespace Go.Proofs.Ytecflhklpkjhcaa
namespace Crc
theorem stk_succ' (k r : Nat) : stk (k + 1) r = stk k (st r) := by
  induction k with
  | zero => rfl
  | succ k ih => show st (stk (k + 1) r) = st (stk k (st r)); rw [ih]
theorem stk_add (m n r : Nat) : stk (m + n) r = stk m (stk n r) := by
  induction m with
  | zero => rw [Nat.zero_add]; rfl
  | succ m ih => rw [Nat.succ_add]; show st (stk (m + n) r) = st (stk m (stk n r)); rw [ih]
theorem xor_mod2 (a b : Nat) : (a ^^^ b) % 2 = (a % 2 + b % 2) % 2 := by
  have := Nat.xor_mod_two_pow (a := a) (b := b) (n := 1)
  rw [Nat.pow_one] at this
  rw [this]
  rcases Nat.mod_two_eq_zero_or_one a with h | h <;> rcases Nat.mod_two_eq_zero_or_one b with h' | h' <;> rw [h, h'] <;> rfl
theorem xor_div2 (a b : Nat) : (a ^^^ b) / 2 = (a / 2) ^^^ (b / 2) := by
  have := Nat.shiftRight_xor_distrib (a := a) (b := b) (i := 1)
  simpa [Nat.shiftRight_eq_div_pow] using this
/-- One step is linear. -/
theorem st_xor (a b : Nat) : st (a ^^^ b) = st a ^^^ st b := by
  unfold st
  rw [xor_mod2, xor_div2]
  rcases Nat.mod_two_eq_zero_or_one a with h | h <;> rcases Nat.mod_two_eq_zero_or_one b with h' | h' <;> simp only [h, h'] <;> simp
  · rw [Nat.xor_assoc]
  · rw [Nat.xor_assoc, Nat.xor_assoc, Nat.xor_comm (b / 2) poly]
  · rw [Nat.xor_assoc, Nat.xor_comm poly, Nat.xor_assoc, Nat.xor_self, Nat.xor_zero]
theorem stk_xor (a b : Nat) : ∀ k, stk k (a ^^^ b) = stk k a ^^^ stk k b
  | 0 => rfl
  | k + 1 => by
    show st (stk k (a ^^^ b)) = _
    rw [stk_xor a b k, st_xor]; rfl
theorem st_even (b : Nat) : st (2 * b) = b := by
  unfold st
  rw [if_neg (by omega)]; omega
theorem stk_shift : ∀ (k b : Nat), stk k (2 ^ k * b) = b
  | 0, b => by simp [stk]
  | k + 1, b => by
    rw [stk_succ', Nat.pow_succ, Nat.mul_comm (2 ^ k) 2, Nat.mul_assoc, st_even]
    exact stk_shift k b
/-- The number that bytes are, the least significant one first. -/
def lv : List UInt8 → Nat
  | [] => 0
  | x :: l => x.toNat + 256 * lv l
theorem xor_add (x m : Nat) (h : x < 256) : x + 256 * m = x ^^^ (2 ^ 8 * m) := by
  rw [Nat.add_comm, show 256 * m = 2 ^ 8 * m from rfl, Nat.two_pow_add_eq_or_of_lt (i := 8) h]
  rw [Nat.or_comm]
  apply Nat.eq_of_testBit_eq
  intro i
  rw [Nat.testBit_or, Nat.testBit_xor]
  by_cases hi : i < 8
  · have : (2 ^ 8 * m).testBit i = false := by rw [Nat.testBit_two_pow_mul]; simp; omega
    rw [this]; simp
  · have : x.testBit i = false := Nat.testBit_lt_two_pow (Nat.lt_of_lt_of_le h (Nat.pow_le_pow_right (n := 2) (by decide) (show 8 ≤ i by omega)))
    rw [this]; simp
/-- Bytes go in as one number. -/
theorem ext_lv : ∀ (l : List UInt8) (r : Nat), ext r l = stk (8 * l.length) (r ^^^ lv l)
  | [], r => by simp [ext, lv, stk]
  | x :: l, r => by
    show ext (add r x) l = _
    rw [ext_lv l (add r x), List.length_cons, show 8 * (l.length + 1) = 8 * l.length + 8 by omega, stk_add]
    congr 1
    unfold add
    rw [show lv (x :: l) = x.toNat + 256 * lv l from rfl, xor_add _ _ x.toNat_lt, ← Nat.xor_assoc, stk_xor _ (2 ^ 8 * lv l), stk_shift]
theorem st_inj {a : Nat} (h : a < 4294967296) (h0 : st a = 0) : a = 0 := by
  unfold st at h0
  split at h0
  · have h1 : a / 2 = poly := by have := congrArg (· ^^^ poly) h0; simpa [Nat.xor_assoc] using this
    unfold poly at h1; omega
  · omega
theorem stk_inj {a : Nat} (h : a < 4294967296) : ∀ k, stk k a = 0 → a = 0
  | 0, h0 => h0
  | k + 1, h0 => stk_inj h k (st_inj (stk_lt h k) h0)
theorem lv_le4 (c : Nat) (h : c < 4294967296) : lv (le4 c) = c := by
  unfold le4 lv lv lv lv lv
  simp only [UInt8.toNat_ofNat']
  omega
theorem not_xor (c : Nat) (h : c < 4294967296) : 4294967295 - c = 4294967295 ^^^ c := by
  have h1 : (BitVec.allOnes 32 ^^^ BitVec.ofNat 32 c).toNat = (~~~(BitVec.ofNat 32 c)).toNat := by rw [BitVec.allOnes_xor]
  rw [BitVec.toNat_xor, BitVec.toNat_not, BitVec.toNat_ofNat, Nat.mod_eq_of_lt (show c < 2 ^ 32 by omega), BitVec.toNat_allOnes] at h1
  exact h1.symm
theorem ext_lt' : ∀ (l : List UInt8) {r : Nat}, r < 4294967296 → ext r l < 4294967296
  | [], _, h => h
  | x :: l, _, h => ext_lt' l (stk_lt (xor_lt h (by have := x.toNat_lt; omega)) 8)
theorem ext_append (r : Nat) (l m : List UInt8) : ext r (l ++ m) = ext (ext r l) m := by simp [ext]
/-- An entry whose checksum fits. -/
theorem good {b : List UInt8} (h : ck (b.take 20) = b.drop 20) : ext 4294967295 b = stk 32 4294967295 := by
  have hR := ext_lt' (b.take 20) (r := 4294967295) (by decide)
  conv => lhs; rw [← List.take_append_drop 20 b]
  rw [ext_append, ← h, ext_lv]
  have e : lv (ck (b.take 20)) = 4294967295 ^^^ ext 4294967295 (b.take 20) := by
    unfold ck sum
    rw [lv_le4 _ (by omega), not_xor _ hR]
  rw [e, show (ck (b.take 20)).length = 4 from rfl]
  congr 1
  rw [Nat.xor_comm 4294967295, ← Nat.xor_assoc, Nat.xor_self, Nat.zero_xor]
/-- Two entries whose checksums fit, and that differ in a burst alone, are equal. -/
theorem burst {b c : List UInt8} (hl : b.length = c.length) (hb : ck (b.take 20) = b.drop 20) (hc : ck (c.take 20) = c.drop 20) {E bit : Nat} (hE : E < 4294967296) (hbit : bit ≤ 8 * b.length) (h : lv c = lv b ^^^ (2 ^ bit * E)) : E = 0 := by
  have g1 := good hb
  have g2 := good hc
  rw [ext_lv] at g1 g2
  rw [← hl, h, ← Nat.xor_assoc, stk_xor, g1] at g2
  have h0 : stk (8 * b.length) (2 ^ bit * E) = 0 := by
    have := congrArg (fun z => stk 32 4294967295 ^^^ z) g2
    simp only [← Nat.xor_assoc, Nat.xor_self, Nat.zero_xor] at this
    exact this
  rw [show 8 * b.length = (8 * b.length - bit) + bit by omega, stk_add, stk_shift] at h0
  exact stk_inj hE _ h0
theorem lv_inj : ∀ (l m : List UInt8), l.length = m.length → lv l = lv m → l = m
  | [], [], _, _ => rfl
  | [], _ :: _, h, _ => by simp at h
  | _ :: _, [], h, _ => by simp at h
  | x :: l, y :: m, h, e => by
    have hx := x.toNat_lt
    have hy := y.toNat_lt
    have e' : x.toNat + 256 * lv l = y.toNat + 256 * lv m := e
    have h1 : x = y := UInt8.toNat_inj.1 (by omega)
    have h2 := lv_inj l m (by simpa using h) (by omega)
    rw [h1, h2]
theorem mul_xor (k a b : Nat) : 2 ^ k * (a ^^^ b) = (2 ^ k * a) ^^^ (2 ^ k * b) := by
  have := Nat.shiftLeft_xor_distrib (a := a) (b := b) (i := k)
  rw [Nat.shiftLeft_eq, Nat.shiftLeft_eq, Nat.shiftLeft_eq] at this
  rw [Nat.mul_comm, this, Nat.mul_comm a, Nat.mul_comm b]
theorem lv_set (d : UInt8) : ∀ (l : List UInt8) (j : Nat), j < l.length → lv (l.set j (bat l j ^^^ d)) = lv l ^^^ (2 ^ (8 * j) * d.toNat)
  | [], _, h => by simp at h
  | x :: l, 0, _ => by
    show (x ^^^ d).toNat + 256 * lv l = (x.toNat + 256 * lv l) ^^^ (2 ^ (8 * 0) * d.toNat)
    rw [xor_add _ _ (x ^^^ d).toNat_lt, xor_add _ _ x.toNat_lt, UInt8.toNat_xor]
    rw [Nat.mul_zero, Nat.pow_zero, Nat.one_mul, Nat.xor_assoc, Nat.xor_assoc, Nat.xor_comm d.toNat]
  | x :: l, j + 1, h => by
    have ih := lv_set d l j (by simpa using h)
    show x.toNat + 256 * lv (l.set j (bat l j ^^^ d)) = (x.toNat + 256 * lv l) ^^^ (2 ^ (8 * (j + 1)) * d.toNat)
    rw [ih, xor_add _ _ x.toNat_lt, xor_add _ _ x.toNat_lt, mul_xor, Nat.xor_assoc]
    congr 2
    rw [← Nat.mul_assoc, ← Nat.pow_add, show 8 + 8 * j = 8 * (j + 1) by omega]
/-- The bit that step i turns, as a byte. -/
def dby (flip bit i : Nat) : UInt8 := UInt8.ofNat (flip / 2 ^ i % 2 * 2 ^ ((bit + i) % 8))
/-- An entry behind i steps. -/
def blkN (flip bit : Nat) (b : List UInt8) : Nat → List UInt8
  | 0 => b
  | i + 1 => (blkN flip bit b i).set ((bit + i) / 8) (bat (blkN flip bit b i) ((bit + i) / 8) ^^^ dby flip bit i)
theorem blkN_length (flip bit : Nat) (b : List UInt8) : ∀ i, (blkN flip bit b i).length = b.length
  | 0 => rfl
  | i + 1 => by show (List.set _ _ _).length = _; rw [List.length_set]; exact blkN_length flip bit b i
theorem mod_step (f i : Nat) : f % 2 ^ (i + 1) = (f % 2 ^ i) ^^^ (2 ^ i * (f / 2 ^ i % 2)) := by
  have h1 : f % 2 ^ (i + 1) = f % 2 ^ i + 2 ^ i * (f / 2 ^ i % 2) := by
    rw [Nat.pow_succ, Nat.mod_mul]
  have hlt : f % 2 ^ i < 2 ^ i := Nat.mod_lt _ (Nat.two_pow_pos i)
  rw [h1]
  apply Nat.eq_of_testBit_eq
  intro j
  rw [Nat.add_comm, Nat.two_pow_add_eq_or_of_lt hlt, Nat.testBit_or, Nat.testBit_xor]
  by_cases hj : j < i
  · have : (2 ^ i * (f / 2 ^ i % 2)).testBit j = false := by rw [Nat.testBit_two_pow_mul]; simp; omega
    rw [this]; simp
  · have : (f % 2 ^ i).testBit j = false := Nat.testBit_lt_two_pow (Nat.lt_of_lt_of_le hlt (Nat.pow_le_pow_right (by decide) (by omega)))
    rw [this]; simp
theorem lv_blkN (flip bit : Nat) (b : List UInt8) : ∀ i, bit + i ≤ 8 * b.length → lv (blkN flip bit b i) = lv b ^^^ (2 ^ bit * (flip % 2 ^ i))
  | 0, _ => by rw [Nat.pow_zero, Nat.mod_one]; simp [blkN]
  | i + 1, h => by
    show lv (List.set _ _ _) = _
    rw [lv_set _ _ _ (by rw [blkN_length]; omega), lv_blkN flip bit b i (by omega), mod_step, mul_xor, Nat.xor_assoc]
    congr 2
    have hd : (dby flip bit i).toNat = flip / 2 ^ i % 2 * 2 ^ ((bit + i) % 8) := by
      unfold dby
      rw [UInt8.toNat_ofNat']
      refine Nat.mod_eq_of_lt ?_
      have h1 : flip / 2 ^ i % 2 ≤ 1 := by omega
      have h2 : (2 : Nat) ^ ((bit + i) % 8) ≤ 2 ^ 7 := Nat.pow_le_pow_right (by decide) (by omega)
      have h3 := Nat.mul_le_mul h1 h2
      omega
    rw [hd, Nat.mul_comm (flip / 2 ^ i % 2), ← Nat.mul_assoc, ← Nat.pow_add, ← Nat.mul_assoc, ← Nat.pow_add]
    congr 2
    omega
/-- The list behind i steps. -/
def cN (eb : List UInt8) (w flip bit i : Nat) : List UInt8 := eb.take (24 * w) ++ blkN flip bit ((eb.drop (24 * w)).take 24) i ++ eb.drop (24 * w + 24)
theorem cN_length {eb : List UInt8} {w : Nat} (h : 24 * w + 24 ≤ eb.length) (flip bit i : Nat) : (cN eb w flip bit i).length = eb.length := by
  unfold cN
  rw [List.length_append, List.length_append, blkN_length, List.length_take, List.length_take, List.length_drop, List.length_drop]; omega
theorem cN_zero {eb : List UInt8} {w : Nat} (flip bit : Nat) : cN eb w flip bit 0 = eb := by
  unfold cN blkN
  rw [← List.take_add, List.take_append_drop]
theorem cN_succ {eb : List UInt8} {w : Nat} (h : 24 * w + 24 ≤ eb.length) (flip bit i : Nat) (hb : bit + i < 192) :
    (cN eb w flip bit i).set (24 * w + (bit + i) / 8) (bat (cN eb w flip bit i) (24 * w + (bit + i) / 8) ^^^ dby flip bit i) = cN eb w flip bit (i + 1) := by
  have l1 : (eb.take (24 * w)).length = 24 * w := by rw [List.length_take]; omega
  have l2 : (blkN flip bit ((eb.drop (24 * w)).take 24) i).length = 24 := by rw [blkN_length, List.length_take, List.length_drop]; omega
  have hj : (bit + i) / 8 < 24 := by omega
  have hbat : bat (cN eb w flip bit i) (24 * w + (bit + i) / 8) = bat (blkN flip bit ((eb.drop (24 * w)).take 24) i) ((bit + i) / 8) := by
    unfold cN bat
    rw [List.getD_eq_getElem?_getD, List.getD_eq_getElem?_getD, List.append_assoc, List.getElem?_append_right (by omega), l1, Nat.add_sub_cancel_left, List.getElem?_append_left (by omega)]
  rw [hbat]
  unfold cN
  rw [List.append_assoc, List.set_append_right _ _ (by omega), l1, Nat.add_sub_cancel_left, List.set_append_left _ _ (by omega), ← List.append_assoc]
  rfl
end Crc
theorem encB_block : ∀ (y : List It) (w : Nat), w < y.length → (encB y).drop (24 * w) = entB (iat y w) ++ encB (y.drop (w + 1))
  | [], _, h => by simp at h
  | x :: y, 0, _ => rfl
  | x :: y, w + 1, h => by
    have ih := encB_block y w (by simpa using h)
    have e : (encB (x :: y)).drop 24 = encB y := by show (entB x ++ encB y).drop 24 = _; exact List.drop_left' (entB_length x)
    rw [show 24 * (w + 1) = 24 + 24 * w by omega, ← List.drop_drop, e, ih]; rfl
theorem entB_good (x : It) : ck ((entB x).take 20) = (entB x).drop 20 := by
  unfold entB
  rw [List.take_left' (ent20_length x), List.drop_left' (ent20_length x)]
/-- A list with a burst in one entry is not accepted. -/
theorem burst_law {k : List It} {w bit m flip : Nat} (hw : w < k.length) (hm : m ≤ 32) (hb : bit + m ≤ 192) (h : (dec (Crc.cN (encB k) w flip bit m)).1 = 0) : Crc.cN (encB k) w flip bit m = encB k := by
  obtain ⟨e1, _, _⟩ := enc_dec h
  generalize (dec (Crc.cN (encB k) w flip bit m)).2 = y at *
  have hlk := encB_length k
  have hcl := Crc.cN_length (eb := encB k) (w := w) (by rw [hlk]; omega) flip bit m
  have hly := encB_length y
  rw [e1, hcl, hlk] at hly
  have hwy : w < y.length := by omega
  have k1 := encB_block k w hw
  have y1 := encB_block y w hwy
  have b0 : ((encB k).drop (24 * w)).take 24 = entB (iat k w) := by rw [k1]; exact List.take_left' (entB_length _)
  have b1 : ((encB y).drop (24 * w)).take 24 = entB (iat y w) := by rw [y1]; exact List.take_left' (entB_length _)
  have l2 : (Crc.blkN flip bit (entB (iat k w)) m).length = 24 := by rw [Crc.blkN_length, entB_length]
  have b2 : ((encB y).drop (24 * w)).take 24 = Crc.blkN flip bit (entB (iat k w)) m := by
    rw [e1]
    unfold Crc.cN
    rw [b0, List.append_assoc, List.drop_left' (by rw [List.length_take, hlk]; omega)]
    exact List.take_left' l2
  have hE := Crc.burst (b := entB (iat k w)) (c := Crc.blkN flip bit (entB (iat k w)) m) (by rw [l2, entB_length]) (entB_good _) (by rw [← b2, b1]; exact entB_good _)
    (E := flip % 2 ^ m) (bit := bit) (Nat.lt_of_lt_of_le (Nat.mod_lt _ (Nat.two_pow_pos m)) (Nat.pow_le_pow_right (n := 2) (by decide) hm)) (by rw [entB_length]; omega) (Crc.lv_blkN flip bit _ m (by rw [entB_length]; omega))
  have hq : Crc.blkN flip bit (entB (iat k w)) m = entB (iat k w) := by
    refine Crc.lv_inj _ _ (by rw [l2, entB_length]) ?_
    rw [Crc.lv_blkN flip bit _ m (by rw [entB_length]; omega), hE]; simp
  unfold Crc.cN
  rw [b0, hq, ← b0, ← List.take_add, List.take_append_drop]
end Go.Proofs.Ytecflhklpkjhcaa
