/- The walks over the checksum, the program's and the reference's. -/
import Derived.Test.YtecflhklpkjhcaaIt
import Derived.Test.YtecflhklpkjhcaaPc
import Derived.Test.YtecflhklpkjhcaaPn
import Derived.Laws.BitsAllLaws
namespace Go.Proofs.Ytecflhklpkjhcaa
open Go.RowKit

theorem low_bit (r : Nat) (h : r < 4294967296) : bits .and .u32 (r : Int) 1 = ((r % 2 : Nat) : Int) := by
  have := u32_and_nat r 1 h (by decide)
  rw [show ((1 : Nat) : Int) = 1 from rfl] at this
  rw [this, Nat.and_one_is_mod]
theorem xor_poly (r : Nat) (h : r < 4294967296) : bits .xor .u32 (r : Int) 2197175160 = ((r ^^^ Crc.poly : Nat) : Int) := by
  have := u32_xor_nat r 2197175160 h (by decide)
  rwa [show ((2197175160 : Nat) : Int) = 2197175160 from rfl] at this
set_option maxHeartbeats 400000 in
theorem rshift_any (r : Nat) (w : World) (h : r < 4294967296) :
    Calls Try.prog 68 #[.int .u32 (r : Int)] w fun e w' => e = .returned (.int .u32 (Crc.stk 8 r : Int)) ∧ w = w' := by
  go_enter Try.func68, Try.ntmps68
  go_wp2_with fail
  go_loop [0, 3] (fun rv kv => ∃ k : Nat, k ≤ 8 ∧ kv = .int .i64 (k : Int) ∧ rv = .int .u32 (Crc.stk k r : Int)) (fun _ kv => 8 - (intOf kv).toNat)
  case atStart => exact ⟨0, by omega, rfl, rfl⟩
  case round =>
    obtain ⟨k, hk, rfl, rfl⟩ := hrel
    have hl := Crc.stk_lt h k
    have HS := Lib.hid (show Crc.stk (k + 1) r = Crc.st (Crc.stk k r) from rfl)
    have HE := Lib.hid (show ∀ j, j = 8 → Crc.stk j r = Crc.stk 8 r from fun j e => by rw [e])
    have HK := Lib.hid (show ∃ q, Crc.stk k r = q from ⟨_, rfl⟩)
    generalize hq : Crc.stk k r = q at *
    have HQ := Lib.hid hq
    clear HK hq
    have b1 := low_bit q hl
    have b2 := xor_poly (q / 2) (by omega)
    rw [show ((q / 2 : Nat) : Int) = (q : Int) / 2 from rfl] at b2
    by_cases hlt : k < 8
    · rcases Nat.mod_two_eq_zero_or_one q with h0 | h1
      · rw [h0] at b1
        have b3 : (((0 : Nat) : Int) == 1) = false := by decide
        go_wp2_with fail
        refine ⟨⟨k + 1, by omega, by go_num, ?_⟩, by simp [intOf]; omega⟩
        rw [HS.out, Crc.st, if_neg (by omega)]; go_num
      · rw [h1] at b1
        go_wp2_with fail
        refine ⟨⟨k + 1, by omega, by go_num, ?_⟩, by simp [intOf]; omega⟩
        rw [HS.out, Crc.st, if_pos h1]
    · obtain rfl : k = 8 := by omega
      go_wp2_with fail
      go_ret
      exact ⟨ret_int (congrArg Nat.cast HQ.out.symm), rfl⟩

theorem RdB.shape0 {w : World} {v : Value} {l : List UInt8} (h : RdB w v l) : ∃ a cap, v = .slice a l.length cap ∧ l.length ≤ cap ∧ cap ≤ maxLen := by
  obtain ⟨a, cap, h1, h2, h3, _⟩ := RdL.shape h 0
  exact ⟨a, cap, h1, h2, h3⟩
theorem RdB.at {w : World} {a : Option Addr} {n cap : Nat} {l : List UInt8} (h : RdB w (.slice a n cap) l) {j : Nat} (hj : j < n) : ∃ b off, a = some ⟨b, off, none⟩ ∧ w.cell? ⟨b, off + j, none⟩ = some (.int .u8 ((bat l j).toNat : Int)) := by
  obtain ⟨a', cap', e, h2, h3, _, h5⟩ := RdL.shape h 0
  injection e with e1 e2 e3
  subst e1 e2 e3
  obtain ⟨b, off, e, hc⟩ := h5 (by omega)
  exact ⟨b, off, e, hc j hj⟩
theorem xor_byte (r : Nat) (x : UInt8) (h : r < 4294967296) : bits .xor .u32 (r : Int) (x.toNat : Int) = ((r ^^^ x.toNat : Nat) : Int) := u32_xor_nat r x.toNat h (by have := x.toNat_lt; omega)
theorem not_nat (c : Nat) (h : c < 4294967296) : 4294967295 ^^^ c = 4294967295 - c := by
  have h1 : (BitVec.allOnes 32 ^^^ BitVec.ofNat 32 c).toNat = (~~~(BitVec.ofNat 32 c)).toNat := by rw [BitVec.allOnes_xor]
  rw [BitVec.toNat_xor, BitVec.toNat_not, BitVec.toNat_ofNat, Nat.mod_eq_of_lt (show c < 2 ^ 32 by omega), BitVec.toNat_allOnes] at h1
  exact h1
theorem not_u32 (c : Nat) (h : c < 4294967296) : bits .xor .u32 IntKind.u32.max (c : Int) = ((4294967295 - c : Nat) : Int) := by
  have := u32_xor_nat 4294967295 c (by decide) h
  rw [not_nat c h] at this
  exact this
set_option maxHeartbeats 400000 in
theorem rext_any (c : Nat) (v : Value) (l : List UInt8) (w : World) (hc : c < 4294967296) (h : RdB w v l) :
    Calls Try.prog 65 #[.int .u32 (c : Int), v] w fun e w' => e = .returned (.int .u32 ((4294967295 - Crc.ext (4294967295 - c) l : Nat) : Int)) ∧ w = w' := by
  obtain ⟨a, cap, rfl, h1, h2⟩ := h.shape0
  have hm := lt63 h1 h2
  have HS := Lib.hid (show ∀ k, k < l.length → Crc.ext (4294967295 - c) (l.take (k + 1)) = Crc.add (Crc.ext (4294967295 - c) (l.take k)) (bat l k) from fun k hk => by rw [btake_snoc hk, Crc.ext_snoc])
  have HE := Lib.hid (show l.take l.length = l from List.take_length)
  generalize hn : l.length = n at *
  have Hr := Lib.hid h
  clear h hn h1 h2
  have n1 := not_u32 c hc
  go_enter Try.func65, Try.ntmps65
  go_wp2_with fail
  clear n1
  go_loop [5, 6] (fun rv kv => ∃ k : Nat, k ≤ n ∧ kv = .int .i64 (k : Int) ∧ rv = .int .u32 (Crc.ext (4294967295 - c) (l.take k) : Int)) (fun _ kv => n - (intOf kv).toNat)
  case atStart => exact ⟨0, by omega, rfl, by simp [Crc.ext]⟩
  case round =>
    obtain ⟨k, hk, rfl, rfl⟩ := hrel
    have hl := Crc.ext_lt (l.take k) (r := 4294967295 - c) (by omega)
    by_cases hlt : k < n
    · obtain ⟨b, off, rfl, c0⟩ := Hr.out.at hlt
      have HK := Lib.hid (HS.out k hlt)
      generalize Crc.ext (4294967295 - c) (l.take k) = q at *
      generalize bat l k = x at *
      have b1 := xor_byte q x hl
      have b3 := x.toNat_lt
      have HR := Lib.hid (fun w => rshift_any (q ^^^ x.toNat) w (Crc.xor_lt hl (by omega)))
      have HA := Lib.hid (show Crc.add q x = Crc.stk 8 (q ^^^ x.toNat) from rfl)
      generalize (q ^^^ x.toNat : Nat) = y at *
      go_wp2_with fail
      refine (HR.out _).mono ?_; rintro e w1 ⟨rfl, rfl⟩
      go_wp2_with fail
      exact ⟨⟨k + 1, by omega, by go_num, by rw [HK.out, HA.out]⟩, by simp [intOf]; omega⟩
    · obtain rfl : k = n := by omega
      have HF := Lib.hid (show Crc.ext (4294967295 - c) (l.take k) = Crc.ext (4294967295 - c) l by rw [HE.out])
      generalize Crc.ext (4294967295 - c) (l.take k) = q at *
      have n1 := not_u32 q hl
      go_wp2_with fail
      go_ret
      exact ⟨ret_int (by rw [← HF.out]), rfl⟩
set_option maxHeartbeats 400000 in
theorem ext_any (c : Nat) (v : Value) (l : List UInt8) (w : World) (hc : c < 4294967296) (h : RdB w v l) :
    Calls Try.prog 47 #[.int .u32 (c : Int), v] w fun e w' => e = .returned (.int .u32 ((4294967295 - Crc.ext (4294967295 - c) l : Nat) : Int)) ∧ w = w' := by
  obtain ⟨a, cap, rfl, h1, h2⟩ := h.shape0
  have hm := lt63 h1 h2
  have HS := Lib.hid (show ∀ k, k < l.length → Crc.ext (4294967295 - c) (l.take (k + 1)) = Crc.add (Crc.ext (4294967295 - c) (l.take k)) (bat l k) from fun k hk => by rw [btake_snoc hk, Crc.ext_snoc])
  have HE := Lib.hid (show l.take l.length = l from List.take_length)
  generalize hn : l.length = n at *
  have Hr := Lib.hid h
  clear h hn h1 h2
  have n1 := not_u32 c hc
  go_enter Try.func47, Try.ntmps47
  go_wp2_with fail
  clear n1
  go_loop [5, 13] (fun rv kv => ∃ k : Nat, k ≤ n ∧ kv = .int .i64 (k : Int) ∧ rv = .int .u32 (Crc.ext (4294967295 - c) (l.take k) : Int)) (fun _ kv => n - (intOf kv).toNat)
  case atStart => exact ⟨0, by omega, rfl, by simp [Crc.ext]⟩
  case round =>
    obtain ⟨k, hk, rfl, rfl⟩ := hrel
    have hl := Crc.ext_lt (l.take k) (r := 4294967295 - c) (by omega)
    by_cases hlt : k < n
    · obtain ⟨b, off, rfl, c0⟩ := Hr.out.at hlt
      have HK := Lib.hid (HS.out k hlt)
      generalize Crc.ext (4294967295 - c) (l.take k) = q at *
      generalize bat l k = x at *
      have b1 := xor_byte q x hl
      have b3 := x.toNat_lt
      have HA := Lib.hid (show Crc.add q x = Crc.stk 8 (q ^^^ x.toNat) from rfl)
      have hy := Crc.xor_lt hl (show x.toNat < 4294967296 by omega)
      generalize (q ^^^ x.toNat : Nat) = y at *
      go_wp2_with fail
      go_loop [5, 21] (fun rv iv => ∃ i : Nat, i ≤ 8 ∧ iv = .int .i64 (i : Int) ∧ rv = .int .u32 (Crc.stk i y : Int)) (fun _ iv => 8 - (intOf iv).toNat)
      case atStart => exact ⟨0, by omega, rfl, rfl⟩
      case round =>
        obtain ⟨i, hi, rfl, rfl⟩ := hrel
        have hz := Crc.stk_lt hy i
        have HSt := Lib.hid (show Crc.stk (i + 1) y = Crc.st (Crc.stk i y) from rfl)
        have HQ := Lib.hid (show ∀ j, j = 8 → Crc.stk j y = Crc.stk 8 y from fun j e => by rw [e])
        generalize hq : Crc.stk i y = z at *
        have HZ := Lib.hid hq
        clear hq
        have e1 := low_bit z hz
        have e2 := xor_poly (z / 2) (by omega)
        rw [show ((z / 2 : Nat) : Int) = (z : Int) / 2 from rfl] at e2
        by_cases hi8 : i < 8
        · rcases Nat.mod_two_eq_zero_or_one z with h0 | h1
          · rw [h0] at e1
            have e3 : (((0 : Nat) : Int) == 1) = false := by decide
            go_wp2_with fail
            refine ⟨⟨i + 1, by omega, by go_num, ?_⟩, by simp [intOf]; omega⟩
            rw [HSt.out, Crc.st, if_neg (by omega)]; go_num
          · rw [h1] at e1
            go_wp2_with fail
            refine ⟨⟨i + 1, by omega, by go_num, ?_⟩, by simp [intOf]; omega⟩
            rw [HSt.out, Crc.st, if_pos h1]
        · obtain rfl : i = 8 := by omega
          go_wp2_with fail
          exact ⟨⟨k + 1, by omega, by go_num, by rw [HK.out, HA.out, HZ.out]⟩, by simp [intOf]; omega⟩
    · obtain rfl : k = n := by omega
      have HF := Lib.hid (show Crc.ext (4294967295 - c) (l.take k) = Crc.ext (4294967295 - c) l by rw [HE.out])
      generalize Crc.ext (4294967295 - c) (l.take k) = q at *
      have n1 := not_u32 q hl
      go_wp2_with fail
      go_ret
      exact ⟨ret_int (by rw [← HF.out]), rfl⟩
theorem rsum_any (v : Value) (l : List UInt8) (w : World) (h : RdB w v l) :
    Calls Try.prog 57 #[v] w fun e w' => e = .returned (.int .u32 (Crc.sum l : Int)) ∧ w = w' := by
  have HX := Lib.hid (rext_any 0 v l w (by decide) h)
  have HS := Lib.hid (show Crc.sum l = 4294967295 - Crc.ext (4294967295 - 0) l from rfl)
  generalize (4294967295 - Crc.ext (4294967295 - 0) l : Nat) = r at *
  go_enter Try.func57, Try.ntmps57
  go_wp2_with fail
  refine HX.out.mono ?_; rintro e w1 ⟨rfl, rfl⟩
  go_wp2_with fail
  go_ret
  exact ⟨ret_int (congrArg Nat.cast HS.out.symm), rfl⟩
theorem sum_any (v : Value) (l : List UInt8) (w : World) (h : RdB w v l) :
    Calls Try.prog 31 #[v] w fun e w' => e = .returned (.int .u32 (Crc.sum l : Int)) ∧ w = w' := by
  have HX := Lib.hid (ext_any 0 v l w (by decide) h)
  have HS := Lib.hid (show Crc.sum l = 4294967295 - Crc.ext (4294967295 - 0) l from rfl)
  generalize (4294967295 - Crc.ext (4294967295 - 0) l : Nat) = r at *
  go_enter Try.func31, Try.ntmps31
  go_wp2_with fail
  refine HX.out.mono ?_; rintro e w1 ⟨rfl, rfl⟩
  go_wp2_with fail
  go_ret
  exact ⟨ret_int (congrArg Nat.cast HS.out.symm), rfl⟩
end Go.Proofs.Ytecflhklpkjhcaa
