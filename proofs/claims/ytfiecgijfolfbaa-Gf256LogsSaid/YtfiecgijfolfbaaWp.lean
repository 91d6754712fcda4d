/- The walks over the laws Gf256Field, Gf256Powers, Gf256Logs. -/
import Derived.Test.YtfiecgijfolfbaaWl
namespace Go.Proofs.Ytfiecgijfolfbaa
open Go.RowKit

theorem add_zero_any (a : Nat) (w : World) (ha : a < 256) :
    Calls Try.prog 13 #[.int .u8 (a : Int), .int .u8 0] w fun e w' => e = .returned (.int .u8 (a : Int)) ∧ w = w' := by
  have := add_any a 0 w ha (by decide)
  rw [Nat.xor_zero] at this; exact this
theorem add_self_any (a : Nat) (w : World) (ha : a < 256) :
    Calls Try.prog 13 #[.int .u8 (a : Int), .int .u8 (a : Int)] w fun e w' => e = .returned (.int .u8 0) ∧ w = w' := by
  have := add_any a a w ha ha
  rw [Nat.xor_self] at this; exact this
theorem mul_one_any (a : Nat) (w : World) (ha : a < 256) :
    Calls Try.prog 11 #[.int .u8 (a : Int), .int .u8 1] w fun e w' => e = .returned (.int .u8 (a : Int)) ∧ w = w' := by
  have := mul_any a 1 w ha (by decide)
  rw [Gf.mul_one ha] at this; exact this
theorem beq_zero_eq (a : Nat) : ((a : Int) == 0) = (a == 0) := by rw [Bool.eq_iff_iff]; simp
/-- The zero test of a product, as the three bits that the program compares. -/
theorem zero_bits (a b : Nat) (ha : a < 256) (hb : b < 256) : ∃ s t : Bool, ((a : Int) == 0) = s ∧ ((b : Int) == 0) = t ∧ (((Gf.mul a b : Nat) : Int) == 0) = (s || t) := by
  refine ⟨_, _, rfl, rfl, ?_⟩
  rw [beq_zero_eq, beq_zero_eq, beq_zero_eq]
  have h := Gf.mul_eq_zero ha hb
  rw [Bool.eq_iff_iff]; simp [h]
set_option maxRecDepth 100000 in
set_option maxHeartbeats 1000000 in
theorem field_walk (a0 : Int) (w0 : (Lit.int .u8 a0).wf = true) (a1 : Int) (w1 : (Lit.int .u8 a1).wf = true) (a2 : Int) (w2 : (Lit.int .u8 a2).wf = true) (w : World) :
    Calls Try.prog 5 #[.int .u8 a0, .int .u8 a1, .int .u8 a2] w fun e w' => e = .returned (.bool true) ∧ Below w.heap.size w w' := by
  obtain ⟨a, rfl, ha⟩ := u8_of w0
  obtain ⟨b, rfl, hb⟩ := u8_of w1
  obtain ⟨c, rfl, hc⟩ := u8_of w2
  clear w0 w1 w2
  have hx := Gf.xor_lt ha hb
  obtain ⟨s, t, h1, h2, h3⟩ := zero_bits a b ha hb
  have M1 := Lib.hid fun w => mul_any a b w ha hb
  have M2 := Lib.hid fun w => add_any a b w ha hb
  have M3 := Lib.hid fun w => mul_any b a w hb ha
  have M4 := Lib.hid fun w => add_any b a w hb ha
  have M5 := Lib.hid fun w => mul_any (Gf.mul a b) c w (Gf.mul_lt b ha) hc
  have M6 := Lib.hid fun w => mul_any b c w hb hc
  have M7 := Lib.hid fun w => mul_any a (Gf.mul b c) w ha (Gf.mul_lt c hb)
  have M8 := Lib.hid fun w => add_any (a ^^^ b) c w hx hc
  have M9 := Lib.hid fun w => add_any b c w hb hc
  have M10 := Lib.hid fun w => add_any a (b ^^^ c) w ha (Gf.xor_lt hb hc)
  have M11 := Lib.hid fun w => mul_any c (a ^^^ b) w hc hx
  have M12 := Lib.hid fun w => mul_any c a w hc ha
  have M13 := Lib.hid fun w => mul_any c b w hc hb
  have M14 := Lib.hid fun w => add_any (Gf.mul c a) (Gf.mul c b) w (Gf.mul_lt a hc) (Gf.mul_lt b hc)
  have M15 := Lib.hid fun w => mul_one_any a w ha
  have M16 := Lib.hid fun w => add_zero_any a w ha
  have M17 := Lib.hid fun w => add_self_any a w ha
  rw [← Gf.mul_xor_right hc ha hb] at M14
  rw [← Gf.mul_assoc ha hb hc] at M7
  rw [Gf.mul_comm hb ha] at M3
  rw [Nat.xor_comm b a] at M4
  rw [← Nat.xor_assoc] at M10
  generalize (a ^^^ b) = x at *
  generalize x ^^^ c = y at *
  generalize b ^^^ c = z at *
  generalize Gf.mul c x = u at *
  generalize Gf.mul a b = m at *
  generalize Gf.mul m c = p at *
  generalize Gf.mul b c = q at *
  generalize Gf.mul c a = r at *
  generalize Gf.mul c b = k at *
  cases s
  all_goals
    cases t
    all_goals
      simp only [Bool.or_false, Bool.or_true] at h3
      go_enter Try.func5, Try.ntmps5
      go_wp2_with fail
      refine (M1.out _).mono ?_; rintro e w1 ⟨rfl, rfl⟩
      go_wp2_with fail
      refine (M2.out _).mono ?_; rintro e w1 ⟨rfl, rfl⟩
      go_wp2_with fail
      refine (M3.out _).mono ?_; rintro e w1 ⟨rfl, rfl⟩
      go_wp2_with fail
      refine (M4.out _).mono ?_; rintro e w1 ⟨rfl, rfl⟩
      go_wp2_with fail
      refine (M5.out _).mono ?_; rintro e w1 ⟨rfl, rfl⟩
      go_wp2_with fail
      refine (M6.out _).mono ?_; rintro e w1 ⟨rfl, rfl⟩
      go_wp2_with fail
      refine (M7.out _).mono ?_; rintro e w1 ⟨rfl, rfl⟩
      go_wp2_with fail
      refine (M8.out _).mono ?_; rintro e w1 ⟨rfl, rfl⟩
      go_wp2_with fail
      refine (M9.out _).mono ?_; rintro e w1 ⟨rfl, rfl⟩
      go_wp2_with fail
      refine (M10.out _).mono ?_; rintro e w1 ⟨rfl, rfl⟩
      go_wp2_with fail
      refine (M11.out _).mono ?_; rintro e w1 ⟨rfl, rfl⟩
      go_wp2_with fail
      refine (M12.out _).mono ?_; rintro e w1 ⟨rfl, rfl⟩
      go_wp2_with fail
      refine (M13.out _).mono ?_; rintro e w1 ⟨rfl, rfl⟩
      go_wp2_with fail
      refine (M14.out _).mono ?_; rintro e w1 ⟨rfl, rfl⟩
      go_wp2_with fail
      refine (M15.out _).mono ?_; rintro e w1 ⟨rfl, rfl⟩
      go_wp2_with fail
      refine (M16.out _).mono ?_; rintro e w1 ⟨rfl, rfl⟩
      go_wp2_with fail
      refine (M17.out _).mono ?_; rintro e w1 ⟨rfl, rfl⟩
      go_wp2_with fail
      refine (awake_any _).mono ?_; rintro e w1 ⟨rfl, hb1⟩
      go_wp2_with fail
      go_ret
      exact ⟨rfl, hb1⟩

/-! ### Powers -/
theorem ex_mod {m n : Int} (h : m % 255 = n % 255) : ex m = ex n := by unfold ex; rw [h]
theorem ex_nat (k : Nat) : ex (k : Int) = Gf.pw k := by
  unfold ex
  rw [show ((k : Int) % 255).toNat = k % 255 by omega, Gf.pw_mod]
theorem ex_eq (n : Int) (k : Nat) (h : n % 255 = (k : Int) % 255) : ex n = Gf.pw k := by rw [ex_mod h, ex_nat]
theorem ex_lt (n : Int) : ex n < 256 := Gf.pw_lt _
theorem ex_add (m n : Int) : Gf.mul (ex m) (ex n) = ex (m + n) := by
  have h := Gf.pw_add (m % 255).toNat (n % 255).toNat
  show Gf.mul (Gf.pw (m % 255).toNat) (Gf.pw (n % 255).toNat) = _
  rw [← h]
  exact (ex_eq _ _ (by omega)).symm
theorem powV_ex {a : Nat} {n : Int} (h0 : 0 < a) (hn : ¬ n = 0) : powV a n = ex ((Gf.lg a : Int) * n) := by
  unfold powV
  rw [if_neg hn, if_neg (by omega)]
  have e : ((Gf.lg a : Int) * n) % 255 = ((Gf.lg a * (n % 255).toNat : Nat) : Int) % 255 := by
    rw [Int.natCast_mul, show ((n % 255).toNat : Int) = n % 255 by omega, Int.mul_emod, Int.mul_emod (Gf.lg a : Int) (n % 255), Int.emod_emod]
  rw [ex_eq _ _ e, Gf.pw_mod]
theorem powV_lt (a : Nat) (n : Int) : powV a n < 256 := by
  unfold powV
  split
  · decide
  · split
    · decide
    · exact Gf.pw_lt _
theorem powV_256 (a : Nat) (ha : a < 256) : powV a 256 = a := by
  rcases Nat.eq_zero_or_pos a with h | h
  · subst h; rfl
  · have h1 := Gf.pw_lg h ha
    rw [powV_ex h (by decide), ex_eq _ (Gf.lg a) (by omega), h1.1]
theorem powV_neg (a : Nat) (n : Int) (h0 : 0 < a) : Gf.mul (powV a n) (powV a (-n)) = 1 := by
  by_cases hn : n = 0
  · subst hn
    rw [show powV a 0 = 1 from rfl, show powV a (-0) = 1 from rfl]; decide +kernel
  · rw [powV_ex h0 hn, powV_ex h0 (by omega), ex_add, ← Int.mul_add, Int.add_right_neg, Int.mul_zero]; rfl
theorem rpow_zero (a : Nat) (w : World) : Calls Try.prog 26 #[.int .u8 (a : Int), .int .i64 0] w fun e w' => e = .returned (.int .u8 1) ∧ w = w' := by
  go_enter Try.func26, Try.ntmps26
  go_wp2
  go_ret
  exact ⟨rfl, rfl⟩
theorem rpow_base0 (n : Int) (w : World) (hn : ¬ n = 0) : Calls Try.prog 26 #[.int .u8 0, .int .i64 n] w fun e w' => e = .returned (.int .u8 0) ∧ w = w' := by
  have hn' : (n == 0) = false := by simp [hn]
  clear hn
  go_enter Try.func26, Try.ntmps26
  go_wp2
  go_ret
  exact ⟨rfl, rfl⟩
theorem mul_rem_bounds (l : Nat) (n : Int) (hl : l < 255) : -9223372036854775808 ≤ (l : Int) * n.tmod 255 ∧ (l : Int) * n.tmod 255 ≤ 9223372036854775807 := by
  obtain ⟨h1, h2⟩ := rem_bounds n
  have a1 : (l : Int) * n.tmod 255 ≤ (l : Int) * 255 := Int.mul_le_mul_of_nonneg_left (by omega) (by omega)
  have a2 : (l : Int) * (-255) ≤ (l : Int) * n.tmod 255 := Int.mul_le_mul_of_nonneg_left (by omega) (by omega)
  omega
theorem rpow_pos (a : Nat) (n : Int) (w : World) (h0 : 0 < a) (ha : a < 256) (hn : ¬ n = 0) :
    Calls Try.prog 26 #[.int .u8 (a : Int), .int .i64 n] w fun e w' => e = .returned (.int .u8 (powV a n : Nat)) ∧ w = w' := by
  have hl := Gf.lg_lt a
  have hb := mul_rem_bounds (Gf.lg a) n hl
  have HE := Lib.hid (show powV a n = ex ((Gf.lg a : Int) * n.tmod 255) by
    rw [powV_ex h0 hn]
    apply ex_mod
    have e1 := rem_mod n
    rw [Int.add_emod_right] at e1
    rw [Int.mul_emod, ← e1, ← Int.mul_emod])
  have H1 := Lib.hid fun w => rlog_any a w ha
  have h0' : ((a : Int) == 0) = false := by simp; omega
  have hn' : (n == 0) = false := by simp [hn]
  have e1 : IntKind.i64.wrap ((Gf.lg a : Int) * n.tmod 255) = (Gf.lg a : Int) * n.tmod 255 := IntWalk.i64_in _ hb
  clear hn hb
  generalize Gf.lg a = l at *
  go_enter Try.func26, Try.ntmps26
  go_wp2_with fail
  refine (H1.out _).mono ?_; rintro e w1 ⟨rfl, rfl⟩
  go_wp2_with fail
  refine (rexp_any ((l : Int) * n.tmod 255) _).mono ?_; rintro e w1 ⟨rfl, rfl⟩
  go_wp2_with fail
  go_ret
  exact ⟨ret_int (by rw [HE.out]), rfl⟩
theorem rpow_any (a : Nat) (n : Int) (w : World) (ha : a < 256) :
    Calls Try.prog 26 #[.int .u8 (a : Int), .int .i64 n] w fun e w' => e = .returned (.int .u8 (powV a n : Nat)) ∧ w = w' := by
  by_cases hn : n = 0
  · subst hn
    exact rpow_zero a w
  · rcases Nat.eq_zero_or_pos a with h0 | h0
    · subst h0
      refine (rpow_base0 n w hn).mono fun e w' ⟨he, hw⟩ => ⟨?_, hw⟩
      rw [he, show powV 0 n = 0 by unfold powV; rw [if_neg hn, if_pos rfl]]; rfl
    · exact rpow_pos a n w h0 ha hn
set_option maxHeartbeats 400000 in
theorem powers_walk (a0 : Int) (w0 : (Lit.int .u8 a0).wf = true) (n : Int) (_w1 : (Lit.int .i64 n).wf = true) (w : World) :
    Calls Try.prog 9 #[.int .u8 a0, .int .i64 n] w fun e w' => e = .returned (.bool true) ∧ Below w.heap.size w w' := by
  obtain ⟨a, rfl, ha⟩ := u8_of w0
  clear w0 _w1
  have M1 := Lib.hid fun w => log_any a w ha
  have M2 := Lib.hid fun w => rlog_any a w ha
  have M3 := Lib.hid fun w => exp_any n w
  have M4 := Lib.hid fun w => rexp_any n w
  have M5 := Lib.hid fun w => pow_any a n w ha
  have M6 := Lib.hid fun w => rpow_any a n w ha
  generalize Gf.lg a = l at *
  generalize erz a = s at *
  generalize ex n = x at *
  generalize powV a n = y at *
  go_enter Try.func9, Try.ntmps9
  go_wp2_with fail
  refine (M1.out _).mono ?_; rintro e w1 ⟨rfl, hb1⟩
  go_wp2_with fail
  refine (M2.out _).mono ?_; rintro e w2 ⟨rfl, rfl⟩
  go_wp2_with fail
  refine (M3.out _).mono ?_; rintro e w2 ⟨rfl, hb2⟩
  go_wp2_with fail
  refine (M4.out _).mono ?_; rintro e w3 ⟨rfl, rfl⟩
  go_wp2_with fail
  refine (M5.out _).mono ?_; rintro e w3 ⟨rfl, hb3⟩
  go_wp2_with fail
  refine (M6.out _).mono ?_; rintro e w4 ⟨rfl, rfl⟩
  go_wp2_with fail
  refine (awake_any _).mono ?_; rintro e w4 ⟨rfl, hb4⟩
  go_wp2_with fail
  go_ret
  have s1 := hb1.size; have s2 := hb2.size; have s3 := hb3.size
  exact ⟨rfl, hb1.trans ((hb2.mono s1).trans ((hb3.mono (Nat.le_trans s1 s2)).trans (hb4.mono (Nat.le_trans s1 (Nat.le_trans s2 s3)))))⟩

theorem i32_of {a : Int} (h : (Lit.int .i32 a).wf = true) : -2147483648 ≤ a ∧ a ≤ 2147483647 := by
  simp [Lit.wf, IntKind.min, IntKind.max, IntKind.signed, IntKind.bits] at h
  omega
theorem exp_lg (a : Nat) (h0 : 0 < a) (ha : a < 256) : ex (Gf.lg a : Int) = a := by rw [ex_nat, (Gf.pw_lg h0 ha).1]
theorem log_exp (m : Int) (w : World) : Calls Try.prog 21 #[.int .u8 (ex m : Nat)] w fun e w' => e = .returned (.tuple #[.int .i64 ((m % 255).toNat : Int), .int .i64 0]) ∧ Below w.heap.size w w' := by
  have h := log_any (ex m) w (ex_lt m)
  rw [erz_pos (show 0 < ex m from Gf.pw_pos _), show Gf.lg (ex m) = (m % 255).toNat from Gf.lg_pw (by omega)] at h
  exact h
set_option maxRecDepth 100000 in
set_option maxHeartbeats 1000000 in
theorem logs_walk (a0 : Int) (w0 : (Lit.int .u8 a0).wf = true) (m : Int) (w1 : (Lit.int .i32 m).wf = true) (n : Int) (w2 : (Lit.int .i32 n).wf = true) (w : World) :
    Calls Try.prog 10 #[.int .u8 a0, .int .i32 m, .int .i32 n] w fun e w' => e = .returned (.bool true) ∧ Below w.heap.size w w' := by
  obtain ⟨a, rfl, ha⟩ := u8_of w0
  obtain ⟨m1, m2⟩ := i32_of w1
  obtain ⟨n1, n2⟩ := i32_of w2
  clear w0 w1 w2
  have M1 := Lib.hid fun w => exp_any m w
  have M2 := Lib.hid fun w => exp_any n w
  have M3 := Lib.hid fun w => mul_any (ex m) (ex n) w (ex_lt m) (ex_lt n)
  have M4 := Lib.hid fun w => exp_any (m + n) w
  have M5 := Lib.hid fun w => pow_any a 256 w ha
  have M7 := Lib.hid fun w => log_exp m w
  rw [ex_add] at M3
  rw [powV_256 a ha] at M5
  rcases Nat.eq_zero_or_pos a with h0 | h0
  · have h0' : ((a : Int) == 0) = true := by simp; omega
    clear h0
    generalize ex (m + n) = x at *
    generalize ex m = y at *
    generalize ex n = z at *
    go_enter Try.func10, Try.ntmps10
    go_wp2_with fail
    refine (M1.out _).mono ?_; rintro e w1 ⟨rfl, hb1⟩
    go_wp2_with fail
    refine (M2.out _).mono ?_; rintro e w2 ⟨rfl, hb2⟩
    go_wp2_with fail
    refine (M3.out _).mono ?_; rintro e w3 ⟨rfl, rfl⟩
    go_wp2_with fail
    refine (M4.out _).mono ?_; rintro e w3 ⟨rfl, hb3⟩
    go_wp2_with fail
    refine (M5.out _).mono ?_; rintro e w4 ⟨rfl, hb4⟩
    go_wp2_with fail
    refine (awake_any _).mono ?_; rintro e w5 ⟨rfl, hb5⟩
    go_wp2_with fail
    go_ret
    have s1 := hb1.size; have s2 := Nat.le_trans s1 hb2.size; have s3 := Nat.le_trans s2 hb3.size; have s4 := Nat.le_trans s3 hb4.size
    exact ⟨rfl, hb1.trans ((hb2.mono s1).trans ((hb3.mono s2).trans ((hb4.mono s3).trans (hb5.mono s4))))⟩
  · have h0' : ((a : Int) == 0) = false := by simp; omega
    have M6 := Lib.hid fun w => log_any a w ha
    have M8 := Lib.hid fun w => exp_any (Gf.lg a : Int) w
    have M9 := Lib.hid fun w => pow_any a m w ha
    have M10 := Lib.hid fun w => pow_any a (-m) w ha
    have M11 := Lib.hid fun w => mul_any (powV a m) (powV a (-m)) w (powV_lt _ _) (powV_lt _ _)
    rw [powV_neg a m h0] at M11
    rw [exp_lg a h0 ha] at M8
    rw [erz_pos h0] at M6
    have hl := Gf.lg_lt a
    have HT := Lib.hid (show ((m - ((m % 255).toNat : Int)).tmod 255 == 0) = true by
      have e : m - ((m % 255).toNat : Int) = 255 * (m / 255) := by omega
      rw [e, Int.mul_tmod_right]; rfl)
    have hk : (m % 255).toNat < 255 := by omega
    clear h0
    generalize (m % 255).toNat = k at *
    have ht := HT.out
    clear HT
    generalize ex (m + n) = x at *
    generalize ex m = y at *
    generalize ex n = z at *
    generalize Gf.lg a = l at *
    generalize powV a m = p at *
    generalize powV a (-m) = q at *
    go_enter Try.func10, Try.ntmps10
    go_wp2_with fail
    refine (M1.out _).mono ?_; rintro e w1 ⟨rfl, hb1⟩
    go_wp2_with fail
    refine (M2.out _).mono ?_; rintro e w2 ⟨rfl, hb2⟩
    go_wp2_with fail
    refine (M3.out _).mono ?_; rintro e w3 ⟨rfl, rfl⟩
    go_wp2_with fail
    refine (M4.out _).mono ?_; rintro e w3 ⟨rfl, hb3⟩
    go_wp2_with fail
    refine (M5.out _).mono ?_; rintro e w4 ⟨rfl, hb4⟩
    go_wp2_with fail
    refine (M6.out _).mono ?_; rintro e w5 ⟨rfl, hb5⟩
    go_wp2_with fail
    refine (M1.out _).mono ?_; rintro e w6 ⟨rfl, hb6⟩
    go_wp2_with fail
    refine (M7.out _).mono ?_; rintro e w7 ⟨rfl, hb7⟩
    go_wp2_with fail
    refine (M8.out _).mono ?_; rintro e w8 ⟨rfl, hb8⟩
    go_wp2_with fail
    refine (M9.out _).mono ?_; rintro e w9 ⟨rfl, hb9⟩
    go_wp2_with fail
    refine (M10.out _).mono ?_; rintro e w10 ⟨rfl, hb10⟩
    go_wp2_with fail
    refine (M11.out _).mono ?_; rintro e w11 ⟨rfl, rfl⟩
    go_wp2_with fail
    refine (awake_any _).mono ?_; rintro e w12 ⟨rfl, hb12⟩
    go_wp2_with fail
    go_ret
    have s1 := hb1.size; have s2 := Nat.le_trans s1 hb2.size; have s3 := Nat.le_trans s2 hb3.size; have s4 := Nat.le_trans s3 hb4.size
    have s5 := Nat.le_trans s4 hb5.size; have s6 := Nat.le_trans s5 hb6.size; have s7 := Nat.le_trans s6 hb7.size; have s8 := Nat.le_trans s7 hb8.size
    have s9 := Nat.le_trans s8 hb9.size; have s10 := Nat.le_trans s9 hb10.size
    exact ⟨rfl, hb1.trans ((hb2.mono s1).trans ((hb3.mono s2).trans ((hb4.mono s3).trans ((hb5.mono s4).trans ((hb6.mono s5).trans ((hb7.mono s6).trans ((hb8.mono s7).trans ((hb9.mono s8).trans ((hb10.mono s9).trans (hb12.mono s10))))))))))⟩
end Go.Proofs.Ytfiecgijfolfbaa
