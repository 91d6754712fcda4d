/- The walks over gf256.Mul, gf256.Add and the reference's Mul: what each call returns, said in plain numbers. -/
import Derived.Test.YtfiecgijfolfbaaRows
import Derived.Test.YtfiecgijfolfbaaGfb
import Derived.WalkKit
import Derived.WalkSpells
import Derived.WalkLawsBesides
import Derived.Lib.Hide
namespace Go.Proofs.Ytfiecgijfolfbaa
open Go.RowKit

theorem ofInt_i64 (a : Nat) (ha : a < 9223372036854775808) : (BitVec.ofInt 64 (a : Int)).toNat = a := by
  rw [BitVec.ofInt_natCast, BitVec.toNat_ofNat]; exact Nat.mod_eq_of_lt (by omega)
theorem i64_xor_nat (a b : Nat) (ha : a < 9223372036854775808) (hb : b < 9223372036854775808) : bits .xor .i64 (a : Int) (b : Int) = ((a ^^^ b : Nat) : Int) := by
  have hx : a ^^^ b < 2 ^ 63 := Nat.xor_lt_two_pow (by omega) (by omega)
  show IntKind.i64.wrap ((BitVec.ofInt 64 (a : Int) ^^^ BitVec.ofInt 64 (b : Int)).toNat : Int) = _
  rw [BitVec.toNat_xor, ofInt_i64 a ha, ofInt_i64 b hb]
  exact IntWalk.i64_in _ (by omega)
theorem i64_and_nat (a b : Nat) (ha : a < 9223372036854775808) (hb : b < 9223372036854775808) : bits .and .i64 (a : Int) (b : Int) = ((a &&& b : Nat) : Int) := by
  have hx : a &&& b < 2 ^ 63 := Nat.and_lt_two_pow _ (by omega)
  show IntKind.i64.wrap ((BitVec.ofInt 64 (a : Int) &&& BitVec.ofInt 64 (b : Int)).toNat : Int) = _
  rw [BitVec.toNat_and, ofInt_i64 a ha, ofInt_i64 b hb]
  exact IntWalk.i64_in _ (by omega)
theorem ret_int {k : IntKind} {a b : Int} (h : a = b) : Ending.returned (.int k a) = .returned (.int k b) := by rw [h]

/-- One round of the loop. -/
def mulRel (a b : Nat) (bv pv xv : Value) : Prop := ∃ f p x c : Nat, c < 2 ^ f ∧ f ≤ 8 ∧ p < 256 ∧ x < 256 ∧ Gf.mulLoop f p x c = Gf.mul a b ∧ bv = .int .u8 (c : Int) ∧ pv = .int .i64 (p : Int) ∧ xv = .int .i64 (x : Int)
theorem low_bit (c : Nat) (hc : c < 256) : (bits .and .u8 (c : Int) 1 == 1) = decide (c % 2 = 1) := by
  have := u8_and_nat c 1 hc (by decide)
  rw [show ((1 : Nat) : Int) = 1 from rfl] at this
  rw [this, nat_mask1, Bool.eq_iff_iff]; simp; omega
theorem mul_round (a b f p x c : Nat) (p' x' : Nat) (h1 : c < 2 ^ f) (h2 : f ≤ 8) (h3 : p < 256) (h4 : x < 256) (h5 : Gf.mulLoop f p x c = Gf.mul a b) (hc : c ≠ 0)
    (hp : p' = if c % 2 = 1 then p ^^^ x else p) (hx : x' = Gf.dbl x) :
    mulRel a b (.int .u8 ((c : Int) / 2)) (.int .i64 (p' : Int)) (.int .i64 (x' : Int)) := by
  cases f with
  | zero => simp at h1; exact absurd h1 hc
  | succ f =>
    refine ⟨f, p', x', c / 2, ?_, by omega, ?_, ?_, ?_, ?_, rfl, rfl⟩
    · rw [Nat.pow_succ] at h1; omega
    · subst hp; split
      · exact Gf.xor_lt h3 h4
      · exact h3
    · subst hx; exact Gf.dbl_lt h4
    · subst hp hx; rw [← h5]; conv => rhs; unfold Gf.mulLoop
      rw [if_neg hc]
    · go_num
theorem mul_way (a b f p x c : Nat) (pv xv : Int) (t1 t2 : Bool) (h1 : c < 2 ^ f) (h2 : f ≤ 8) (h3 : p < 256) (h4 : x < 256) (h5 : Gf.mulLoop f p x c = Gf.mul a b) (hc : ((c : Int) != 0) = true)
    (e1 : (bits .and .u8 (c : Int) 1 == 1) = t1) (e2 : ((x : Int) * 2 / 256 == 1) = t2)
    (hp : pv = if t1 then bits .xor .i64 (p : Int) (x : Int) else (p : Int)) (hx : xv = if t2 then bits .xor .i64 ((x : Int) * 2) 285 else (x : Int) * 2) :
    mulRel a b (.int .u8 ((c : Int) / 2)) (.int .i64 pv) (.int .i64 xv) ∧ (intOf (.int .u8 ((c : Int) / 2))).toNat < (intOf (.int .u8 (c : Int))).toNat := by
  have hc8 : c < 256 := Nat.lt_of_lt_of_le h1 (Nat.pow_le_pow_right (by decide) h2)
  have hc0 : c ≠ 0 := by simpa using hc
  have hp' : pv = ((if c % 2 = 1 then p ^^^ x else p : Nat) : Int) := by
    rw [hp, ← e1, low_bit c hc8]
    by_cases h : c % 2 = 1
    · simp only [h, decide_true, if_true]; exact i64_xor_nat p x (by omega) (by omega)
    · simp only [h, decide_false, Bool.false_eq_true, if_false]
  have hx' : xv = ((Gf.dbl x : Nat) : Int) := by
    rw [hx, ← e2]
    by_cases h : x * 2 / 256 = 1
    · rw [if_pos (by simp; omega), Gf.dbl_ge x h]; exact i64_xor_nat (x * 2) 285 (by omega) (by omega)
    · rw [if_neg (by simp; omega), Gf.dbl_lo x h]; rfl
  subst hp' hx'
  exact ⟨mul_round a b f p x c _ _ h1 h2 h3 h4 h5 hc0 rfl rfl, by simp [intOf]; omega⟩
theorem mul_done (a b f p x : Nat) (h5 : Gf.mulLoop f p x 0 = Gf.mul a b) : p = Gf.mul a b := by rw [← h5, Gf.mulLoop_zero]

set_option maxHeartbeats 400000 in
theorem mul_any (a b : Nat) (w : World) (ha : a < 256) (hb : b < 256) :
    Calls Try.prog 11 #[.int .u8 (a : Int), .int .u8 (b : Int)] w fun e w' => e = .returned (.int .u8 (Gf.mul a b : Nat)) ∧ w = w' := by
  go_enter Try.func11, Try.ntmps11
  go_wp2
  go_loop [1, 5, 6] (fun b' p x => mulRel a b b' p x) (fun b _ _ => (intOf b).toNat)
  case atStart => exact ⟨8, 0, a, b, hb, by decide, by decide, ha, rfl, rfl, rfl, rfl⟩
  case round =>
    obtain ⟨f, p, x, c, h1, h2, h3, h4, h5, rfl, rfl, rfl⟩ := hrel
    have hc : c < 256 := Nat.lt_of_lt_of_le h1 (Nat.pow_le_pow_right (by decide) h2)
    have H5 := Lib.hid h5; clear h5
    go_wp2
    · exact mul_way a b f p x c _ _ true true h1 h2 h3 h4 H5.out ‹_› ‹_› ‹_› rfl rfl
    · exact mul_way a b f p x c _ _ true false h1 h2 h3 h4 H5.out ‹_› ‹_› ‹_› rfl rfl
    · exact mul_way a b f p x c _ _ false true h1 h2 h3 h4 H5.out ‹_› ‹_› ‹_› rfl rfl
    · exact mul_way a b f p x c _ _ false false h1 h2 h3 h4 H5.out ‹_› ‹_› ‹_› rfl rfl
    · have h0 : c = 0 := by have : ((c : Int) != 0) = false := by assumption
                            simpa using this
      subst h0
      go_ret
      exact ⟨ret_int (by rw [mul_done a b f p x H5.out]), rfl⟩

theorem add_any (a b : Nat) (w : World) (ha : a < 256) (hb : b < 256) :
    Calls Try.prog 13 #[.int .u8 (a : Int), .int .u8 (b : Int)] w fun e w' => e = .returned (.int .u8 ((a ^^^ b : Nat) : Int)) ∧ w = w' := by
  go_enter Try.func13, Try.ntmps13
  go_wp2
  go_ret
  exact ⟨ret_int (u8_xor_nat a b ha hb), rfl⟩
end Go.Proofs.Ytfiecgijfolfbaa
