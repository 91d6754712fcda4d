/- The walk over the reference's Mul. -/
import Derived.Test.YtfiecgijfolfbaaWm
import Derived.Test.YtfiecgijfolfbaaGfr
namespace Go.Proofs.Ytfiecgijfolfbaa
open Go.RowKit

def clRel (a b : Nat) (pv kv : Value) : Prop := ∃ n : Nat, n ≤ 8 ∧ kv = .int .i64 (n : Int) ∧ pv = .int .i64 (Gf.cl a b n : Nat)
def redRel (p : Nat) (pv kv : Value) : Prop := ∃ j : Nat, j ≤ 7 ∧ kv = .int .i64 ((14 - j : Nat) : Int) ∧ pv = .int .i64 (Gf.red p j : Nat)

theorem bit_test_u8 (b n : Nat) (hb : b < 256) : (bits .and .u8 ((b : Int) / 2 ^ n) 1 == 1) = decide (b / 2 ^ n % 2 = 1) := by
  have e : ((b : Int) / 2 ^ n) = ((b / 2 ^ n : Nat) : Int) := by simp
  have hlt : b / 2 ^ n < 256 := Nat.lt_of_le_of_lt (Nat.div_le_self _ _) hb
  rw [e]; exact low_bit _ hlt
theorem bit_test_i64 (q n : Nat) (hq : q < 32768) : (bits .and .i64 ((q : Int) / 2 ^ n) 1 == 1) = decide (q / 2 ^ n % 2 = 1) := by
  have e : ((q : Int) / 2 ^ n) = ((q / 2 ^ n : Nat) : Int) := by simp
  have hlt : q / 2 ^ n < 32768 := Nat.lt_of_le_of_lt (Nat.div_le_self _ _) hq
  rw [e]
  have := i64_and_nat (q / 2 ^ n) 1 (by omega) (by decide)
  rw [show ((1 : Nat) : Int) = 1 from rfl] at this
  rw [this, nat_mask1, Bool.eq_iff_iff]; simp; omega
theorem mul_pow_lt {a k m : Nat} (ha : a < m) (hk : k ≤ 8) : a * 2 ^ k < m * 256 := by
  have : 2 ^ k ≤ 2 ^ 8 := Nat.pow_le_pow_right (by decide) hk
  have h1 : a * 2 ^ k ≤ a * 256 := Nat.mul_le_mul_left a this
  omega
theorem cl_way (a b n : Nat) (pv : Int) (t : Bool) (ha : a < 256) (hb : b < 256) (hn : n < 8) (e : (bits .and .u8 ((b : Int) / 2 ^ n) 1 == 1) = t)
    (hp : pv = if t then bits .xor .i64 (Gf.cl a b n : Nat) (wrap64 ((a : Int) * 2 ^ n)) else (Gf.cl a b n : Nat)) :
    clRel a b (.int .i64 pv) (.int .i64 ((n : Int) + 1)) := by
  refine ⟨n + 1, by omega, by go_num, ?_⟩
  have hlt := Gf.cl_lt b ha n (by omega)
  rw [hp, ← e, bit_test_u8 b n hb]
  show _ = Value.int .i64 ((if b / 2 ^ n % 2 = 1 then Gf.cl a b n ^^^ a * 2 ^ n else Gf.cl a b n : Nat) : Int)
  by_cases h : b / 2 ^ n % 2 = 1
  · have h1 := mul_pow_lt (m := 256) ha (show n ≤ 8 by omega)
    have ew : wrap64 ((a : Int) * 2 ^ n) = ((a * 2 ^ n : Nat) : Int) := by
      have e2 : (a : Int) * 2 ^ n = ((a * 2 ^ n : Nat) : Int) := by simp
      rw [e2]; exact IntWalk.wrap64_in _ (by omega)
    simp only [h, decide_true, if_true]
    rw [ew, i64_xor_nat _ _ (by omega) (by omega)]
  · simp only [h, decide_false, Bool.false_eq_true, if_false]
theorem red_way (p j : Nat) (pv : Int) (t : Bool) (hp0 : p < 32768) (hj : j < 7) (e : (bits .and .i64 (((Gf.red p j : Nat) : Int) / 2 ^ (14 - j)) 1 == 1) = t)
    (hp : pv = if t then bits .xor .i64 (Gf.red p j : Nat) (wrap64 (285 * 2 ^ (14 - j - 8))) else (Gf.red p j : Nat)) :
    redRel p (.int .i64 pv) (.int .i64 (((14 - j : Nat) : Int) - 1)) := by
  refine ⟨j + 1, by omega, by congr 1; omega, ?_⟩
  have hlt := Gf.red_lt hp0 j (by omega)
  rw [hp, ← e, bit_test_i64 _ _ hlt]
  show _ = Value.int .i64 ((if Gf.red p j / 2 ^ (14 - j) % 2 = 1 then Gf.red p j ^^^ 285 * 2 ^ (14 - j - 8) else Gf.red p j : Nat) : Int)
  by_cases h : Gf.red p j / 2 ^ (14 - j) % 2 = 1
  · have h1 := mul_pow_lt (a := 285) (m := 286) (by decide) (show 14 - j - 8 ≤ 8 by omega)
    have ew : wrap64 (285 * 2 ^ (14 - j - 8)) = ((285 * 2 ^ (14 - j - 8) : Nat) : Int) := by
      have e2 : (285 * 2 ^ (14 - j - 8) : Int) = ((285 * 2 ^ (14 - j - 8) : Nat) : Int) := by simp
      rw [e2]; exact IntWalk.wrap64_in _ (by omega)
    simp only [h, decide_true, if_true]
    rw [ew, i64_xor_nat _ _ (by omega) (by omega)]
  · simp only [h, decide_false, Bool.false_eq_true, if_false]

set_option maxHeartbeats 400000 in
theorem rmul_any (a b : Nat) (w : World) (ha : a < 256) (hb : b < 256) :
    Calls Try.prog 14 #[.int .u8 (a : Int), .int .u8 (b : Int)] w fun e w' => e = .returned (.int .u8 (Gf.mul a b : Nat)) ∧ w = w' := by
  go_enter Try.func14, Try.ntmps14
  go_wp2
  go_loop [5, 6] (fun p k => clRel a b p k) (fun _ k => 8 - (intOf k).toNat)
  case atStart => exact ⟨0, by decide, rfl, rfl⟩
  case round =>
    obtain ⟨n, h1, rfl, rfl⟩ := hrel
    by_cases hlt : n < 8
    · go_wp2
      · exact ⟨cl_way a b n _ true ha hb hlt ‹_› rfl, by simp [intOf]; omega⟩
      · exact ⟨cl_way a b n _ false ha hb hlt ‹_› rfl, by simp [intOf]; omega⟩
    · obtain rfl : n = 8 := by omega
      have hq := Gf.cl_lt b ha 8 (Nat.le_refl _)
      have hm := Gf.ref_mul ha hb
      generalize Gf.cl a b 8 = q at hq hm
      have HM := Lib.hid hm
      clear hm hlt h1
      go_wp2
      go_loop [5, 7] (fun p k => redRel q p k) (fun _ k => (intOf k).toNat)
      case atStart => exact ⟨0, by decide, rfl, rfl⟩
      case round =>
        obtain ⟨j, h3, rfl, rfl⟩ := hrel
        by_cases hlt : j < 7
        · have hg : 8 ≤ 14 - j := by omega
          go_wp2
          · exact ⟨red_way q j _ true hq hlt ‹_› rfl, by simp [intOf]; omega⟩
          · exact ⟨red_way q j _ false hq hlt ‹_› rfl, by simp [intOf]; omega⟩
        · obtain rfl : j = 7 := by omega
          go_wp2
          go_ret
          refine ⟨ret_int ?_, rfl⟩
          rw [← HM.out]; simp
end Go.Proofs.Ytfiecgijfolfbaa
