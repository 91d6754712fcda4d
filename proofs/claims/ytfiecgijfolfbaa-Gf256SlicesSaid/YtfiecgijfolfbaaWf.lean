/- The walks over the reference's Inv, Div, Exp, Log, Pow. -/
import Derived.Test.YtfiecgijfolfbaaWi
namespace Go.Proofs.Ytfiecgijfolfbaa
open Go.RowKit

/-- No number from 1 to n - 1 gives 1 with a. -/
def noInv (a n : Nat) : Prop := ∀ b, 1 ≤ b → b < n → Gf.mul a b ≠ 1
theorem inv_found (a n : Nat) (ha : a < 256) (hn : n < 256) (h : Gf.mul a n = 1) : n = invV a ∧ erz a = 0 := by
  rcases Nat.eq_zero_or_pos a with h0 | h0
  · subst h0; rw [Gf.zero_mul hn] at h; omega
  · exact ⟨by rw [invV_pos h0]; exact Gf.inv_unique h0 ha hn h, erz_pos h0⟩
theorem inv_missed (a : Nat) (ha : a < 256) (h : noInv a 256) : 0 = invV a ∧ erz a = 1 := by
  rcases Nat.eq_zero_or_pos a with h0 | h0
  · subst h0; exact ⟨rfl, rfl⟩
  · exact absurd (Gf.mul_inv h0 ha) (h _ (Gf.inv_pos a) (Gf.inv_lt a))
theorem mul_one_of {m : Nat} (h : ((m : Int) == 1) = true) : m = 1 := by have := eq_of_beq h; omega
theorem mul_ne_of {m : Nat} (h : ((m : Int) == 1) = false) : m ≠ 1 := by intro h'; rw [h'] at h; exact absurd h (by decide)
def rinvRel (a : Nat) (v : Value) : Prop := ∃ n : Nat, 1 ≤ n ∧ n ≤ 256 ∧ noInv a n ∧ v = .int .i64 (n : Int)
set_option maxRecDepth 100000 in
set_option maxHeartbeats 400000 in
theorem rinv_any (a : Nat) (w : World) (ha : a < 256) :
    Calls Try.prog 16 #[.int .u8 (a : Int)] w fun e w' => e = .returned (.tuple #[.int .u8 (invV a : Nat), .int .i64 (erz a)]) ∧ w = w' := by
  go_enter Try.func16, Try.ntmps16
  go_wp2
  go_loop [4] (fun v => rinvRel a v) (fun v => 256 - (intOf v).toNat)
  case atStart => exact ⟨1, by decide, by decide, fun b h1 h2 => absurd h2 (by omega), rfl⟩
  case round =>
    obtain ⟨n, h1, h2, h3, rfl⟩ := hrel
    have H3 := Lib.hid h3; clear h3
    by_cases hlt : n < 256
    · have e1 : (n : Int) % 256 = (n : Int) := by omega
      go_wp2_with (go_at_call 14; refine (rmul_any a n _ ha hlt).mono ?_; rintro e w1 ⟨rfl, rfl⟩)
      · have hm : Gf.mul a n = 1 := mul_one_of ‹_›
        have hf := inv_found a n ha hlt hm
        go_ret2
        exact ⟨ret_pair (by rw [hf.1]) hf.2.symm, rfl⟩
      · have hm : Gf.mul a n ≠ 1 := mul_ne_of ‹_›
        refine ⟨⟨n + 1, by omega, by omega, ?_, by go_num⟩, by simp [intOf]; omega⟩
        intro b hb1 hb2
        by_cases e : b = n
        · rw [e]; exact hm
        · exact H3.out b hb1 (by omega)
    · obtain rfl : n = 256 := by omega
      have HF := Lib.hid (inv_missed a ha H3.out)
      go_wp2
      go_ret2
      exact ⟨ret_pair (by rw [← HF.out.1]; rfl) HF.out.2.symm, rfl⟩
theorem rdiv_any (a b : Nat) (w : World) (ha : a < 256) (hb : b < 256) : Calls Try.prog 18 #[.int .u8 (a : Int), .int .u8 (b : Int)] w fun e w' => e = .returned (.tuple #[.int .u8 (divV a b : Nat), .int .i64 (erz b)]) ∧ w = w' := by
  have hI := fun w => rinv_any b w hb
  rcases Nat.eq_zero_or_pos b with h0 | h0
  · have HI : ∀ w, Calls Try.prog 16 #[.int .u8 (b : Int)] w fun e w' => e = .returned (.tuple #[.int .u8 0, .int .i64 1]) ∧ w = w' := fun w => by
      have := hI w; rw [h0] at this; rw [h0]; exact this
    have HV := Lib.hid (show divV a b = 0 ∧ erz b = 1 by rw [h0]; exact ⟨rfl, rfl⟩)
    have H := Lib.hid HI
    clear hI HI h0
    go_enter Try.func18, Try.ntmps18
    go_wp2_with (go_at_call 16; refine (H.out _).mono ?_; rintro e w1 ⟨rfl, rfl⟩)
    go_ret2
    exact ⟨ret_pair (by rw [HV.out.1]; rfl) HV.out.2.symm, rfl⟩
  · have HI : ∀ w, Calls Try.prog 16 #[.int .u8 (b : Int)] w fun e w' => e = .returned (.tuple #[.int .u8 (Gf.inv b : Nat), .int .i64 0]) ∧ w = w' := fun w => by
      have := hI w; rw [erz_pos h0, invV_pos h0] at this; exact this
    have HV := Lib.hid (show divV a b = Gf.mul a (Gf.inv b) ∧ erz b = 0 from ⟨if_neg (by omega), erz_pos h0⟩)
    have H := Lib.hid HI
    have hi := Gf.inv_lt b
    clear hI HI h0
    go_enter Try.func18, Try.ntmps18
    go_wp2_with (first | (go_at_call 16; refine (H.out _).mono ?_; rintro e w1 ⟨rfl, rfl⟩) | (go_at_call 14; refine (rmul_any a (Gf.inv b) _ ha hi).mono ?_; rintro e w2 ⟨rfl, rfl⟩))
    go_ret2
    exact ⟨ret_pair (by rw [HV.out.1]) HV.out.2.symm, rfl⟩

def noLog (a n : Nat) : Prop := ∀ k, k < n → Gf.pw k ≠ a
theorem log_found (a n : Nat) (hn : n < 255) (h : Gf.pw n = a) : n = Gf.lg a ∧ erz a = 0 := by
  have hp := Gf.pw_pos n
  exact ⟨by rw [← h, Gf.lg_pw hn], erz_pos (by omega)⟩
theorem log_missed (a : Nat) (ha : a < 256) (h : noLog a 255) : 0 = Gf.lg a ∧ erz a = 1 := by
  rcases Nat.eq_zero_or_pos a with h0 | h0
  · subst h0; exact ⟨Gf.lg_zero.symm, rfl⟩
  · have := Gf.pw_lg h0 ha
    exact absurd this.1 (h _ this.2)
theorem cast_eq_of {m a : Nat} (h : ((m : Int) == (a : Int)) = true) : m = a := by have := eq_of_beq h; omega
theorem cast_ne_of {m a : Nat} (h : ((m : Int) == (a : Int)) = false) : m ≠ a := by intro h'; rw [h'] at h; simp at h
def rlogRel (a : Nat) (p v : Value) : Prop := ∃ n : Nat, n ≤ 255 ∧ noLog a n ∧ v = .int .i64 (n : Int) ∧ p = .int .u8 (Gf.pw n : Nat)
set_option maxRecDepth 100000 in
set_option maxHeartbeats 400000 in
theorem rlog_any (a : Nat) (w : World) (ha : a < 256) :
    Calls Try.prog 22 #[.int .u8 (a : Int)] w fun e w' => e = .returned (.tuple #[.int .i64 (Gf.lg a : Nat), .int .i64 (erz a)]) ∧ w = w' := by
  go_enter Try.func22, Try.ntmps22
  go_wp2
  go_loop [4, 5] (fun p v => rlogRel a p v) (fun _ v => 255 - (intOf v).toNat)
  case atStart => exact ⟨0, by decide, fun k h => absurd h (Nat.not_lt_zero k), rfl, rfl⟩
  case round =>
    obtain ⟨n, h1, h2, rfl, rfl⟩ := hrel
    have H2 := Lib.hid h2; clear h2
    have hp := Gf.pw_lt n
    by_cases hlt : n < 255
    · have HM := Lib.hid (show Gf.mul (Gf.pw n) 2 = Gf.pw (n + 1) from Gf.mul_two hp)
      go_wp2_with (go_at_call 14; refine (rmul_any (Gf.pw n) 2 _ hp (by decide)).mono ?_; rintro e w1 ⟨rfl, rfl⟩)
      · have hf := log_found a n hlt (cast_eq_of ‹_›)
        go_ret2
        exact ⟨ret_pair (by rw [← hf.1]) hf.2.symm, rfl⟩
      · have hne : Gf.pw n ≠ a := cast_ne_of ‹_›
        refine ⟨⟨n + 1, by omega, ?_, by go_num, by rw [← HM.out]⟩, by simp [intOf]; omega⟩
        intro k hk
        by_cases e : k = n
        · rw [e]; exact hne
        · exact H2.out k (by omega)
    · obtain rfl : n = 255 := by omega
      have HF := Lib.hid (log_missed a ha H2.out)
      go_wp2
      go_ret2
      exact ⟨ret_pair (by rw [← HF.out.1]; rfl) HF.out.2.symm, rfl⟩
def rexpRel (o v : Value) : Prop := ∃ k : Nat, v = .int .i64 (k : Int) ∧ o = .int .u8 (Gf.pw k : Nat)
def rexpTo (m : Nat) (o v : Value) : Prop := ∃ k : Nat, k ≤ m ∧ v = .int .i64 (k : Int) ∧ o = .int .u8 (Gf.pw k : Nat)
theorem ex_of_neg {n : Int} (h : n.tmod 255 < 0) (m : Nat) (hm : n.tmod 255 + 255 = (m : Int)) : ex n = Gf.pw m := by
  have h1 := rem_mod n
  have h2 := rem_bounds n
  unfold ex; congr 1; omega
theorem ex_of_pos {n : Int} (h : 0 ≤ n.tmod 255) (m : Nat) (hm : n.tmod 255 = (m : Int)) : ex n = Gf.pw m := by
  have h1 := rem_mod n
  have h2 := rem_bounds n
  unfold ex; congr 1; omega
set_option maxRecDepth 100000 in
set_option maxHeartbeats 400000 in
theorem rexp_any (n : Int) (w : World) :
    Calls Try.prog 24 #[.int .i64 n] w fun e w' => e = .returned (.int .u8 (ex n : Nat)) ∧ w = w' := by
  obtain ⟨hb1, hb2⟩ := rem_bounds n
  by_cases hneg : n.tmod 255 < 0
  · obtain ⟨m, hm⟩ : ∃ m : Nat, n.tmod 255 + 255 = (m : Int) := ⟨(n.tmod 255 + 255).toNat, by omega⟩
    have HE := Lib.hid (ex_of_neg hneg m hm)
    have hm2 : m < 255 := by omega
    go_enter Try.func24, Try.ntmps24
    go_wp2
    clear hb1 hb2 hneg
    go_loop [3, 4] (fun o v => rexpTo m o v) (fun _ v => m - (intOf v).toNat)
    case atStart => exact ⟨0, Nat.zero_le _, rfl, rfl⟩
    case round =>
      obtain ⟨k, h1, rfl, rfl⟩ := hrel
      have hp := Gf.pw_lt k
      by_cases hlt : k < m
      · have HM := Lib.hid (show Gf.mul (Gf.pw k) 2 = Gf.pw (k + 1) from Gf.mul_two hp)
        go_wp2_with (go_at_call 14; refine (rmul_any (Gf.pw k) 2 _ hp (by decide)).mono ?_; rintro e w1 ⟨rfl, rfl⟩)
        exact ⟨⟨k + 1, by omega, by go_num, by rw [← HM.out]⟩, by simp [intOf]; omega⟩
      · obtain rfl : k = m := by omega
        go_wp2
        go_ret
        exact ⟨ret_int (by rw [HE.out]), rfl⟩
  · obtain ⟨m, hm⟩ : ∃ m : Nat, n.tmod 255 = (m : Int) := ⟨(n.tmod 255).toNat, by omega⟩
    have HE := Lib.hid (ex_of_pos (by omega) m hm)
    have hm2 : m < 255 := by omega
    go_enter Try.func24, Try.ntmps24
    go_wp2
    clear hb1 hb2 hneg
    go_loop [3, 4] (fun o v => rexpTo m o v) (fun _ v => m - (intOf v).toNat)
    case atStart => exact ⟨0, Nat.zero_le _, rfl, rfl⟩
    case round =>
      obtain ⟨k, h1, rfl, rfl⟩ := hrel
      have hp := Gf.pw_lt k
      by_cases hlt : k < m
      · have HM := Lib.hid (show Gf.mul (Gf.pw k) 2 = Gf.pw (k + 1) from Gf.mul_two hp)
        go_wp2_with (go_at_call 14; refine (rmul_any (Gf.pw k) 2 _ hp (by decide)).mono ?_; rintro e w1 ⟨rfl, rfl⟩)
        exact ⟨⟨k + 1, by omega, by go_num, by rw [← HM.out]⟩, by simp [intOf]; omega⟩
      · obtain rfl : k = m := by omega
        go_wp2
        go_ret
        exact ⟨ret_int (by rw [HE.out]), rfl⟩
end Go.Proofs.Ytfiecgijfolfbaa
