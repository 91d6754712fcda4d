/- The walks over the laws Gf256Products, Gf256Field, Gf256Quotients, Gf256Inverse. -/
import Derived.Test.YtfiecgijfolfbaaWl
namespace Go.Proofs.Ytfiecgijfolfbaa
open Go.RowKit

set_option maxHeartbeats 400000 in
theorem products_walk (a0 : Int) (w0 : (Lit.int .u8 a0).wf = true) (a1 : Int) (w1 : (Lit.int .u8 a1).wf = true) (w : World) :
    Calls Try.prog 4 #[.int .u8 a0, .int .u8 a1] w fun e w' => e = .returned (.bool true) ∧ Below w.heap.size w w' := by
  obtain ⟨a, rfl, ha⟩ := u8_of w0
  obtain ⟨b, rfl, hb⟩ := u8_of w1
  clear w0 w1
  have M1 := Lib.hid fun w => mul_any a b w ha hb
  have M2 := Lib.hid fun w => rmul_any a b w ha hb
  have M3 := Lib.hid fun w => add_any a b w ha hb
  have X : bits .xor .u8 (a : Int) (b : Int) = ((a ^^^ b : Nat) : Int) := u8_xor_nat a b ha hb
  generalize a ^^^ b = x at *
  generalize Gf.mul a b = s at *
  go_enter Try.func4, Try.ntmps4
  go_wp2_with fail
  refine (M3.out _).mono ?_; rintro e w1 ⟨rfl, rfl⟩
  go_wp2_with fail
  refine (M1.out _).mono ?_; rintro e w1 ⟨rfl, rfl⟩
  go_wp2_with fail
  refine (M2.out _).mono ?_; rintro e w1 ⟨rfl, rfl⟩
  go_wp2_with fail
  refine (awake_any _).mono ?_; rintro e w1 ⟨rfl, hb1⟩
  go_wp2_with fail
  go_ret
  exact ⟨rfl, hb1⟩

set_option maxHeartbeats 400000 in
theorem quotients_walk (a0 : Int) (w0 : (Lit.int .u8 a0).wf = true) (a1 : Int) (w1 : (Lit.int .u8 a1).wf = true) (w : World) :
    Calls Try.prog 6 #[.int .u8 a0, .int .u8 a1] w fun e w' => e = .returned (.bool true) ∧ Below w.heap.size w w' := by
  obtain ⟨a, rfl, ha⟩ := u8_of w0
  obtain ⟨b, rfl, hb⟩ := u8_of w1
  clear w0 w1
  have M1 := Lib.hid fun w => inv_any a w ha
  have M2 := Lib.hid fun w => rinv_any a w ha
  have M3 := Lib.hid fun w => div_any a b w ha hb
  have M4 := Lib.hid fun w => rdiv_any a b w ha hb
  generalize invV a = x at *
  generalize erz a = s at *
  generalize divV a b = y at *
  generalize erz b = t at *
  go_enter Try.func6, Try.ntmps6
  go_wp2_with fail
  refine (M1.out _).mono ?_; rintro e w1 ⟨rfl, hb1⟩
  go_wp2_with fail
  refine (M2.out _).mono ?_; rintro e w2 ⟨rfl, rfl⟩
  go_wp2_with fail
  refine (M3.out _).mono ?_; rintro e w2 ⟨rfl, hb2⟩
  go_wp2_with fail
  refine (M4.out _).mono ?_; rintro e w3 ⟨rfl, rfl⟩
  go_wp2_with fail
  refine (awake_any _).mono ?_; rintro e w3 ⟨rfl, hb3⟩
  go_wp2_with fail
  go_ret
  exact ⟨rfl, hb1.trans ((hb2.mono hb1.size).trans (hb3.mono (Nat.le_trans hb1.size hb2.size)))⟩

set_option maxHeartbeats 400000 in
theorem inverse_walk (a0 : Int) (w0 : (Lit.int .u8 a0).wf = true) (a1 : Int) (w1 : (Lit.int .u8 a1).wf = true) (w : World) :
    Calls Try.prog 7 #[.int .u8 a0, .int .u8 a1] w fun e w' => e = .returned (.bool true) ∧ Below w.heap.size w w' := by
  obtain ⟨a, rfl, ha⟩ := u8_of w0
  obtain ⟨b, rfl, hb⟩ := u8_of w1
  clear w0 w1
  rcases Nat.eq_zero_or_pos b with h0 | h0
  · subst h0
    go_enter Try.func7, Try.ntmps7
    go_wp2_with fail
    refine (awake_any _).mono ?_; rintro e w1 ⟨rfl, hb1⟩
    go_wp2_with fail
    go_ret
    exact ⟨rfl, hb1⟩
  · have M1 := Lib.hid fun w => inv_pos b w h0 hb
    have M2 := Lib.hid fun w => mul_any a b w ha hb
    have M3 := Lib.hid fun w => div_pos (Gf.mul a b) b w (Gf.mul_lt b ha) h0 hb
    have M4 := Lib.hid fun w => inv_pos (Gf.inv b) w (Gf.inv_pos b) (Gf.inv_lt b)
    have M5 := Lib.hid fun w => mul_any b (Gf.inv b) w hb (Gf.inv_lt b)
    rw [Gf.inv_inv h0 hb] at M4
    rw [Gf.mul_mul_inv ha h0 hb] at M3
    rw [Gf.mul_inv h0 hb] at M5
    have h0' : ((b : Int) == 0) = false := by simp; omega
    generalize Gf.mul a b = s at *
    generalize Gf.inv b = i at *
    go_enter Try.func7, Try.ntmps7
    go_wp2_with fail
    refine (M1.out _).mono ?_; rintro e w1 ⟨rfl, hb1⟩
    go_wp2_with fail
    refine (M2.out _).mono ?_; rintro e w2 ⟨rfl, rfl⟩
    go_wp2_with fail
    refine (M3.out _).mono ?_; rintro e w2 ⟨rfl, hb2⟩
    go_wp2_with fail
    refine (M4.out _).mono ?_; rintro e w3 ⟨rfl, hb3⟩
    go_wp2_with fail
    refine (M5.out _).mono ?_; rintro e w4 ⟨rfl, rfl⟩
    go_wp2_with fail
    refine (awake_any _).mono ?_; rintro e w4 ⟨rfl, hb4⟩
    go_wp2_with fail
    go_ret
    have s1 := hb1.size; have s2 := hb2.size; have s3 := hb3.size
    exact ⟨rfl, hb1.trans ((hb2.mono s1).trans ((hb3.mono (Nat.le_trans s1 s2)).trans (hb4.mono (Nat.le_trans s1 (Nat.le_trans s2 s3)))))⟩
end Go.Proofs.Ytfiecgijfolfbaa
