/- Several texts in one, each over the last: Size of a record, of any number of bytes: the walks. Numbers of kind float64 that stand for whole numbers of less than 53 digits: reading, sums, order, back to an integer. No program here. -/
import Derived.Test.YtenkeodfijladaaGreatDoorGQ
import Derived.Laws.ComplexArith
namespace Go.Proofs.YtenkeodfijladaaGreatDoor
open Go.RowKit

theorem nsizeB (n : Nat) (w : World) : Calls Tryz.prog 29 #[.int .i64 (n : Int)] w fun e w' => e = .returned (.int .i64 ((szN n : Nat) : Int)) ∧ w = w' := by
  by_cases hn : n ≤ 4096
  · have HS := Lib.hid (show ((szN n : Nat) : Int) = (20 + (n : Int) + 4 + 8 - 1) / 8 * 8 by unfold szN nsz; rw [if_pos hn]; omega)
    have hd : decide ((4096 : Int) < (n : Int)) = false := by simp; omega
    have hd2 : decide ((n : Int) < 0) = false := by simp
    go_enter Tryz.func29, Tryz.ntmps29
    go_wp2_with fail
    go_ret
    exact ⟨ret_int (by rw [HS.out]), rfl⟩
  · have HS := Lib.hid (show szN n = 0 by unfold szN; rw [if_neg hn])
    have hd : decide ((4096 : Int) < (n : Int)) = true := by simp; omega
    have hd2 : decide ((n : Int) < 0) = false := by simp
    go_enter Tryz.func29, Tryz.ntmps29
    go_wp2_with fail
    go_ret
    exact ⟨ret_int (by rw [HS.out]; rfl), rfl⟩
theorem rsizeB (n : Nat) (w : World) : Calls Tryz.prog 35 #[.int .i64 (n : Int)] w fun e w' => e = .returned (.int .i64 ((szN n : Nat) : Int)) ∧ w = w' := by
  by_cases hn : n ≤ 4096
  · have HS := Lib.hid (show ((szN n : Nat) : Int) = (20 + (n : Int) + 4 + 8 - 1) / 8 * 8 by unfold szN nsz; rw [if_pos hn]; omega)
    have hd : decide ((4096 : Int) < (n : Int)) = false := by simp; omega
    have hd2 : decide ((n : Int) < 0) = false := by simp
    go_enter Tryz.func35, Tryz.ntmps35
    go_wp2_with fail
    go_ret
    exact ⟨ret_int (by rw [HS.out]; omega), rfl⟩
  · have HS := Lib.hid (show szN n = 0 by unfold szN; rw [if_neg hn])
    have hd : decide ((4096 : Int) < (n : Int)) = true := by simp; omega
    have hd2 : decide ((n : Int) < 0) = false := by simp
    go_enter Tryz.func35, Tryz.ntmps35
    go_wp2_with fail
    go_ret
    exact ⟨ret_int (by rw [HS.out]; rfl), rfl⟩
end Go.Proofs.YtenkeodfijladaaGreatDoor

namespace Go.Proofs.YtenkeodfijladaaGreatDoor.Fx
open Ieee

/-- The word of a whole number. -/
def fb (n : Int) : Nat := FloatKind.f64.nearest n
/-- Few enough digits. -/
def Small (n : Int) : Prop := n.natAbs < 2 ^ 53
theorem p52 : (2 : Nat) ^ 52 = 4503599627370496 := rfl
theorem p53 : (2 : Nat) ^ 53 = 9007199254740992 := rfl
theorem p63 : (2 : Nat) ^ 63 = 9223372036854775808 := rfl
theorem infR : double.infRung = 9218868437227405312 := rfl
theorem binR : double.binade = 4503599627370496 := rfl
theorem sigR : double.signWeight = 9223372036854775808 := rfl
theorem log2_mul (a k : Nat) (h : 0 < a) : (a * 2 ^ k).log2 = a.log2 + k := by
  have ha : a ≠ 0 := by omega
  have hp : 0 < 2 ^ k := Nat.two_pow_pos k
  have hm : a * 2 ^ k ≠ 0 := Nat.mul_ne_zero ha (by omega)
  refine Nat.le_antisymm ?_ ?_
  · refine Nat.lt_succ_iff.1 ((Nat.log2_lt hm).2 ?_)
    rw [show (a.log2 + k).succ = (a.log2 + 1) + k by omega, Nat.pow_add]
    exact Nat.mul_lt_mul_of_pos_right ((Nat.log2_lt ha).1 (Nat.lt_succ_self _)) hp
  · refine (Nat.le_log2 hm).2 ?_
    rw [Nat.pow_add]
    exact Nat.mul_le_mul_right _ ((Nat.le_log2 ha).1 (Nat.le_refl _))
theorem log2_le {a : Nat} (h : 0 < a) (hs : a < 2 ^ 53) : a.log2 ≤ 52 := Nat.lt_succ_iff.1 ((Nat.log2_lt (by omega)).2 hs)
theorem full {a : Nat} (h : 0 < a) (hs : a < 2 ^ 53) : 2 ^ 52 ≤ a * 2 ^ (52 - a.log2) ∧ a * 2 ^ (52 - a.log2) < 2 ^ 53 := by
  have hl := log2_le h hs
  have h1 := (Nat.le_log2 (n := a) (by omega)).1 (Nat.le_refl _)
  have h2 := (Nat.log2_lt (n := a) (by omega)).1 (Nat.lt_succ_self _)
  have hp : 0 < 2 ^ (52 - a.log2) := Nat.two_pow_pos _
  refine ⟨?_, ?_⟩
  · have := Nat.mul_le_mul_right (2 ^ (52 - a.log2)) h1
    rwa [← Nat.pow_add, show a.log2 + (52 - a.log2) = 52 by omega] at this
  · have := Nat.mul_lt_mul_of_pos_right h2 hp
    rwa [← Nat.pow_add, show a.log2.succ + (52 - a.log2) = 53 by omega] at this
theorem cut_exact (way : Toward) (neg : Bool) (b k : Nat) (h : k ≤ (b * 2 ^ k).log2 + 2 ∨ b = 0) : way.cut neg (b * 2 ^ k) k = b := by
  unfold Toward.cut
  rcases h with h | h
  · rw [Nat.min_eq_left h, Nat.shiftLeft_eq, Nat.one_mul]
    have hp : 0 < 2 ^ k := Nat.two_pow_pos k
    simp only [Nat.mul_div_cancel _ hp, Nat.mul_mod_left]
    cases way <;> cases neg <;> simp <;> omega
  · subst h
    rw [Nat.zero_mul]
    have hp : 0 < 1 <<< min k (Nat.log2 0 + 2) := by rw [Nat.shiftLeft_eq, Nat.one_mul]; exact Nat.two_pow_pos _
    simp only [Nat.zero_div, Nat.zero_mod]
    cases way <;> cases neg <;> simp <;> omega
/-- The rung of a whole number. -/
def rung (a : Nat) : Nat := (a.log2 + 1022) * 2 ^ 52 + a * 2 ^ (52 - a.log2)
theorem nearest_pos (neg : Bool) (a k : Nat) (h : 0 < a) (hs : a < 2 ^ 53) : double.nearest neg (a * 2 ^ k) (-(k : Int)) = double.word neg (rung a) := by
  have hl := log2_le h hs
  have hf := full h hs
  have hm : a * 2 ^ k ≠ 0 := Nat.mul_ne_zero (by omega) (by have := Nat.two_pow_pos k; omega)
  unfold Format.nearest
  rw [if_neg hm]
  have hlp : double.leastPlace = -1074 := by decide
  have hb : double.binade = 2 ^ 52 := rfl
  have hlog := log2_mul a k h
  have hfr : double.fractionBits = 52 := rfl
  have hlast : max (-(k : Int) + ((a * 2 ^ k).log2 : Int) - (double.fractionBits : Int)) double.leastPlace = (a.log2 : Int) - 52 := by
    rw [hlog, hlp, hfr]; omega
  have hkept : Toward.even.cut neg ((a * 2 ^ k) <<< (-(k : Int) - ((a.log2 : Int) - 52)).toNat) ((a.log2 : Int) - 52 - -(k : Int)).toNat = a * 2 ^ (52 - a.log2) := by
    rw [Nat.shiftLeft_eq]
    by_cases hc : k + a.log2 ≤ 52
    · have e1 : (-(k : Int) - ((a.log2 : Int) - 52)).toNat = 52 - a.log2 - k := by omega
      have e2 : ((a.log2 : Int) - 52 - -(k : Int)).toNat = 0 := by omega
      rw [e1, e2, Nat.mul_assoc, ← Nat.pow_add, show k + (52 - a.log2 - k) = 52 - a.log2 by omega]
      have := cut_exact .even neg (a * 2 ^ (52 - a.log2)) 0 (.inl (by omega))
      rwa [Nat.pow_zero, Nat.mul_one] at this
    · have e1 : (-(k : Int) - ((a.log2 : Int) - 52)).toNat = 0 := by omega
      have e2 : ((a.log2 : Int) - 52 - -(k : Int)).toNat = k - (52 - a.log2) := by omega
      rw [e1, e2, Nat.pow_zero, Nat.mul_one]
      have e3 : a * 2 ^ k = a * 2 ^ (52 - a.log2) * 2 ^ (k - (52 - a.log2)) := by
        rw [Nat.mul_assoc, ← Nat.pow_add, show 52 - a.log2 + (k - (52 - a.log2)) = k by omega]
      rw [e3]
      refine cut_exact .even neg _ _ (.inl ?_)
      rw [← e3, hlog]; omega
  simp only [hlast, hkept]
  have hr : ((a.log2 : Int) - 52 - double.leastPlace).toNat * double.binade + a * 2 ^ (52 - a.log2) = rung a := by
    rw [hlp, hb, show ((a.log2 : Int) - 52 - -1074).toNat = a.log2 + 1022 by omega]; rfl
  rw [hr, Nat.min_eq_left]
  rw [infR]
  unfold rung
  rw [p52, p53] at *
  omega
theorem fb_eq (n : Int) : fb n = double.nearest (decide (n < 0)) n.natAbs 0 := rfl
theorem wr (n : Int) (hs : Small n) (k : Nat) : double.nearest (decide (n < 0)) (n.natAbs * 2 ^ k) (-(k : Int)) = fb n := by
  rw [fb_eq]
  by_cases h0 : n = 0
  · subst h0
    unfold Format.nearest
    simp
  · have h := nearest_pos (decide (n < 0)) n.natAbs k (by omega) hs
    have h' := nearest_pos (decide (n < 0)) n.natAbs 0 (by omega) hs
    rw [Nat.pow_zero, Nat.mul_one] at h'
    rw [h]
    exact h'.symm
theorem read_word (neg : Bool) (r : Nat) (h1 : 4503599627370496 ≤ r) (h2 : r < 9218868437227405312) : double.read (double.word neg r) = .number neg (4503599627370496 + r % 4503599627370496) (-1074 + ((r / 4503599627370496 - 1 : Nat) : Int)) := by
  have hlp : double.leastPlace = -1074 := by decide
  have e1 : double.word neg r % 9223372036854775808 = r := by
    unfold Format.word
    rw [sigR]
    cases neg
    · simp only [Bool.false_eq_true, if_false]; omega
    · simp only [if_true]; omega
  have e2 : (double.word neg r / 9223372036854775808 % 2 == 1) = neg := by
    unfold Format.word
    rw [sigR]
    cases neg
    · simp only [Bool.false_eq_true, if_false]; rw [beq_eq_false_iff_ne]; omega
    · simp only [if_true]; rw [beq_iff_eq]; omega
  unfold Format.read
  simp only [sigR, binR, infR, e1, e2, hlp]
  rw [if_neg (by omega), if_pos h2]
theorem rd (n : Int) (hs : Small n) : ∃ k : Nat, double.read (fb n) = .number (decide (n < 0)) (n.natAbs * 2 ^ k) (-(k : Int)) := by
  by_cases h0 : n = 0
  · subst h0
    have e : double.read (fb 0) = .number false 0 (-1074) := rfl
    obtain ⟨K, hK⟩ : ∃ K : Nat, K = 1074 := ⟨_, rfl⟩
    refine ⟨K, ?_⟩
    rw [e, Int.natAbs_zero, Nat.zero_mul, hK]
    rfl
  · have ha : 0 < n.natAbs := by omega
    have hl := log2_le ha hs
    have hf := full ha hs
    have h := nearest_pos (decide (n < 0)) n.natAbs 0 ha hs
    rw [Nat.pow_zero, Nat.mul_one] at h
    have e : fb n = double.word (decide (n < 0)) (rung n.natAbs) := h
    have hr : rung n.natAbs = (n.natAbs.log2 + 1022) * 4503599627370496 + n.natAbs * 2 ^ (52 - n.natAbs.log2) := rfl
    rw [p52, p53] at hf
    have hg : ∃ k, k = 52 - n.natAbs.log2 := ⟨_, rfl⟩
    obtain ⟨k, hk⟩ := hg
    refine ⟨k, ?_⟩
    rw [← hk] at hf hr
    have hg : ∃ q, q = n.natAbs * 2 ^ k := ⟨_, rfl⟩
    obtain ⟨q, hq⟩ := hg
    rw [← hq] at hf hr ⊢
    clear hq h
    have e1 : 4503599627370496 + rung n.natAbs % 4503599627370496 = q := by rw [hr]; omega
    have e2 : -1074 + ((rung n.natAbs / 4503599627370496 - 1 : Nat) : Int) = -(k : Int) := by rw [hr]; omega
    rw [e, read_word _ _ (by rw [hr]; omega) (by rw [hr]; omega), e1, e2]
theorem signed_val (n : Int) (k up : Nat) : signed (decide (n < 0)) (n.natAbs * 2 ^ k) up = n * (2 ^ (k + up) : Nat) := by
  unfold signed
  rw [Nat.shiftLeft_eq, Nat.mul_assoc, ← Nat.pow_add]
  by_cases h : n < 0
  · rw [if_pos (by simpa using h), Int.natCast_mul]
    rw [show ((n.natAbs : Nat) : Int) = -n by omega, Int.neg_mul, Int.neg_neg]
  · rw [if_neg (by simpa using h), Int.natCast_mul]
    rw [show ((n.natAbs : Nat) : Int) = n by omega]
theorem add_fb (a b : Int) (ha : Small a) (hb : Small b) (hab : Small (a + b)) : double.add (fb a) (fb b) = some (fb (a + b)) := by
  obtain ⟨k, hk⟩ := rd a ha
  obtain ⟨j, hj⟩ := rd b hb
  unfold Format.add
  rw [hk, hj]
  show Option.map double.write (some _) = _
  rw [Option.map_some]
  congr 1
  have hmin : min (-(k : Int)) (-(j : Int)) = -((max k j : Nat) : Int) := by omega
  have e1 : (-(k : Int) - -((max k j : Nat) : Int)).toNat = max k j - k := by omega
  have e2 : (-(j : Int) - -((max k j : Nat) : Int)).toNat = max k j - j := by omega
  simp only [hmin, e1, e2, signed_val]
  rw [show k + (max k j - k) = max k j by omega, show j + (max k j - j) = max k j by omega, ← Int.add_mul]
  generalize max k j = M
  have hp : 0 < 2 ^ M := Nat.two_pow_pos M
  have hp' : (0 : Int) < ((2 ^ M : Nat) : Int) := by omega
  have hn : ((a + b) * ((2 ^ M : Nat) : Int)).natAbs = (a + b).natAbs * 2 ^ M := by rw [Int.natAbs_mul, Int.natAbs_natCast]
  rw [hn]
  have hsg : (if (a + b) * ((2 ^ M : Nat) : Int) = 0 then decide (a < 0) && decide (b < 0) else decide ((a + b) * ((2 ^ M : Nat) : Int) < 0)) = decide (a + b < 0) := by
    by_cases h0 : a + b = 0
    · rw [if_pos (by rw [h0, Int.zero_mul]), h0]
      by_cases h1 : a < 0
      · simp [h1]; omega
      · simp [h1]
    · rw [if_neg (Int.mul_ne_zero h0 (by omega))]
      refine decide_eq_decide.2 ⟨fun h => ?_, fun h => Int.mul_neg_of_neg_of_pos h hp'⟩
      by_cases h1 : a + b < 0
      · exact h1
      · have := Int.mul_nonneg (show 0 ≤ a + b by omega) (Int.le_of_lt hp'); omega
  rw [hsg]
  exact wr (a + b) hab M
theorem order_fb (a b : Int) (ha : Small a) (hb : Small b) : double.order (fb a) (fb b) = some (compare a b) := by
  obtain ⟨k, hk⟩ := rd a ha
  obtain ⟨j, hj⟩ := rd b hb
  unfold Format.order
  rw [hk, hj]
  have hmin : min (-(k : Int)) (-(j : Int)) = -((max k j : Nat) : Int) := by omega
  have e1 : (-(k : Int) - -((max k j : Nat) : Int)).toNat = max k j - k := by omega
  have e2 : (-(j : Int) - -((max k j : Nat) : Int)).toNat = max k j - j := by omega
  show some (compare _ _) = _
  simp only [hmin, e1, e2, signed_val]
  rw [show k + (max k j - k) = max k j by omega, show j + (max k j - j) = max k j by omega]
  generalize max k j = M
  have hp : 0 < 2 ^ M := Nat.two_pow_pos M
  have hp' : (0 : Int) < ((2 ^ M : Nat) : Int) := by omega
  congr 1
  show compareOfLessAndEq _ _ = compareOfLessAndEq _ _
  unfold compareOfLessAndEq
  have h1 : a * ((2 ^ M : Nat) : Int) < b * ((2 ^ M : Nat) : Int) ↔ a < b := ⟨fun h => Int.lt_of_mul_lt_mul_right h (Int.le_of_lt hp'), fun h => Int.mul_lt_mul_of_pos_right h hp'⟩
  have h2 : a * ((2 ^ M : Nat) : Int) = b * ((2 ^ M : Nat) : Int) ↔ a = b := ⟨fun h => Int.eq_of_mul_eq_mul_right (by omega) h, fun h => by rw [h]⟩
  simp only [h1, h2]
theorem toInt_fb (a : Int) (ha : Small a) : (double.read (fb a)).toInt .zero = some a := by
  obtain ⟨k, hk⟩ := rd a ha
  rw [hk]
  unfold Datum.toInt Datum.integral
  have e1 : (-(k : Int)).toNat = 0 := by omega
  have e2 : (- -(k : Int)).toNat = k := by omega
  simp only [e1, e2, Nat.shiftLeft_zero]
  have hc : Toward.zero.cut (decide (a < 0)) (a.natAbs * 2 ^ k) k = a.natAbs := by
    by_cases h0 : a.natAbs = 0
    · rw [h0]; exact cut_exact _ _ 0 k (.inr rfl)
    · exact cut_exact _ _ _ k (.inl (by rw [log2_mul _ _ (by omega)]; omega))
  rw [hc]
  have := signed_val a 0 0
  rw [Nat.pow_zero, Nat.mul_one] at this
  rw [this]; simp
end Go.Proofs.YtenkeodfijladaaGreatDoor.Fx
