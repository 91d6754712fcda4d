/- The walks over awake, the reference's Pow, and the laws of integers. -/
import Derived.Test.YtfiecgijfolfbaaWf
namespace Go.Proofs.Ytfiecgijfolfbaa
open Go.RowKit

theorem u8_of {a : Int} (h : (Lit.int .u8 a).wf = true) : ∃ n : Nat, a = (n : Int) ∧ n < 256 := by
  have hb : 0 ≤ a ∧ a ≤ 255 := by
    simp [Lit.wf, IntKind.min, IntKind.max, IntKind.signed, IntKind.bits] at h
    omega
  exact ⟨a.toNat, by omega, by omega⟩
theorem awake_any (w : World) : Calls Try.prog 12 #[] w fun e w' => e = .returned (.bool true) ∧ Below w.heap.size w w' := by
  have e1 : Gf.mul 128 2 = 29 := by decide +kernel
  have e2 : ex 8 = 29 := by decide +kernel
  have e3 : ex 255 = 1 := by decide +kernel
  have e4 : ex (-1) = 142 := by
    show Gf.pw 254 = 142
    decide +kernel
  have H1 : ∀ w, Calls Try.prog 11 #[.int .u8 128, .int .u8 2] w fun e w' => e = .returned (.int .u8 29) ∧ w = w' := fun w => by
    have := mul_any 128 2 w (by decide) (by decide); rw [e1] at this; exact this
  have H2 : ∀ w, Calls Try.prog 23 #[.int .i64 8] w fun e w' => e = .returned (.int .u8 29) ∧ Below w.heap.size w w' := fun w => by
    have := exp_any 8 w; rw [e2] at this; exact this
  have H3 : ∀ w, Calls Try.prog 23 #[.int .i64 255] w fun e w' => e = .returned (.int .u8 1) ∧ Below w.heap.size w w' := fun w => by
    have := exp_any 255 w; rw [e3] at this; exact this
  have H4 : ∀ w, Calls Try.prog 23 #[.int .i64 (-1)] w fun e w' => e = .returned (.int .u8 142) ∧ Below w.heap.size w w' := fun w => by
    have := exp_any (-1) w; rw [e4] at this; exact this
  have K1 := Lib.hid H1; have K2 := Lib.hid H2; have K3 := Lib.hid H3; have K4 := Lib.hid H4
  clear H1 H2 H3 H4 e1 e2 e3 e4
  go_enter Try.func12, Try.ntmps12
  go_wp2_with fail
  refine (inv_zero _).mono ?_; rintro e w1 ⟨rfl, rfl⟩
  go_wp2_with fail
  refine (K1.out _).mono ?_; rintro e w1 ⟨rfl, rfl⟩
  go_wp2_with fail
  refine (K2.out _).mono ?_; rintro e w2 ⟨rfl, hb2⟩
  go_wp2_with fail
  refine (K3.out _).mono ?_; rintro e w3 ⟨rfl, hb3⟩
  go_wp2_with fail
  refine (K4.out _).mono ?_; rintro e w4 ⟨rfl, hb4⟩
  go_wp2_with fail
  go_ret
  exact ⟨rfl, hb2.trans ((hb3.mono hb2.size).trans (hb4.mono (Nat.le_trans hb2.size hb3.size)))⟩

theorem beq_cast (a b : Nat) : ((a : Int) == (b : Int)) = (a == b) := by rw [Bool.eq_iff_iff]; simp; omega
theorem beq_beq_of {a b c d : Nat} (h : a = b ↔ c = d) : (((a : Int) == (b : Int)) == ((c : Int) == (d : Int))) = true := by
  rw [beq_cast, beq_cast]
  by_cases e : c = d
  · rw [beq_iff_eq.2 e, beq_iff_eq.2 (h.2 e)]; rfl
  · rw [beq_eq_false_iff_ne.2 e, beq_eq_false_iff_ne.2 (fun e' => e (h.1 e'))]; rfl
set_option maxHeartbeats 400000 in
theorem squares_walk (a0 : Int) (w0 : (Lit.int .u8 a0).wf = true) (a1 : Int) (w1 : (Lit.int .u8 a1).wf = true) (w : World) :
    Calls Try.prog 3 #[.int .u8 a0, .int .u8 a1] w fun e w' => e = .returned (.bool true) ∧ Below w.heap.size w w' := by
  obtain ⟨a, rfl, ha⟩ := u8_of w0
  obtain ⟨b, rfl, hb⟩ := u8_of w1
  clear w0 w1
  have M1 := Lib.hid fun w => mul_any a a w ha ha
  have M2 := Lib.hid fun w => mul_any b b w hb hb
  have M3 := Lib.hid fun w => mul_any (a ^^^ b) (a ^^^ b) w (Gf.xor_lt ha hb) (Gf.xor_lt ha hb)
  have X : bits .xor .u8 (a : Int) (b : Int) = ((a ^^^ b : Nat) : Int) := u8_xor_nat a b ha hb
  have Y := u8_xor_nat _ _ (Gf.mul_lt a ha) (Gf.mul_lt b hb)
  rw [← Gf.sq_xor ha hb] at Y
  have Z := beq_beq_of (Gf.sq_inj ha hb)
  generalize a ^^^ b = x at *
  generalize Gf.mul a a = s at *
  generalize Gf.mul b b = t at *
  generalize Gf.mul x x = q at *
  go_enter Try.func3, Try.ntmps3
  go_wp2_with fail
  refine (M1.out _).mono ?_; rintro e w1 ⟨rfl, rfl⟩
  go_wp2_with fail
  refine (M2.out _).mono ?_; rintro e w1 ⟨rfl, rfl⟩
  go_wp2_with fail
  refine (M3.out _).mono ?_; rintro e w1 ⟨rfl, rfl⟩
  go_wp2_with fail
  refine (awake_any _).mono ?_; rintro e w1 ⟨rfl, hb1⟩
  go_wp2_with fail
  go_ret
  exact ⟨rfl, hb1⟩
end Go.Proofs.Ytfiecgijfolfbaa
