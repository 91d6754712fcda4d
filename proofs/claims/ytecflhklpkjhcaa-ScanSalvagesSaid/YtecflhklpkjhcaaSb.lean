/- The walks over superblock's small functions. -/
import Derived.Test.YtecflhklpkjhcaaNu
import Derived.Test.YtecflhklpkjhcaaSp
namespace Go.Proofs.Ytecflhklpkjhcaa
open Go.RowKit

abbrev supV (s : Sup) : Value := .agg #[.int .i64 (s.slot : Int), .int .i64 (s.gen : Int), .int .i64 (s.rev : Int)]
theorem val_bits64 (q : Nat) (x : UInt8) (h : q < 16777216) : bits .or .i64 ((q : Int) * 256) (x.toNat : Int) = ((q * 256 + x.toNat : Nat) : Int) := by
  have b3 := x.toNat_lt
  have e := val_or q x
  rw [Nat.mod_eq_of_lt (by omega), Nat.mod_eq_of_lt (by omega)] at e
  have hw : (q : Int) * 256 = ((q * 256 : Nat) : Int) := by omega
  rw [hw, ← e]
  have hx : q * 256 ||| x.toNat < 2 ^ 40 := Nat.or_lt_two_pow (by omega) (by omega)
  show IntKind.i64.wrap ((BitVec.ofInt 64 ((q * 256 : Nat) : Int) ||| BitVec.ofInt 64 (x.toNat : Int)).toNat : Int) = _
  rw [BitVec.toNat_or, ofInt_u64 _ (by omega), ofInt_u64 _ (by omega), IntKind.wrap_i64]
  omega
set_option maxHeartbeats 400000 in
theorem snum_any (v : Value) (l : List UInt8) (w : World) (h : RdB w v l) (h4 : l.length ≤ 4) :
    Calls Try.prog 49 #[v] w fun e w' => e = .returned (.int .i64 (val l : Int)) ∧ w = w' := by
  obtain ⟨a, cap, rfl, h1, h2⟩ := h.shape0
  have hm := lt63 h1 h2
  have HVB := Lib.hid (show ∀ k, k < l.length → val (l.take k) < 16777216 from fun k hk => by
    have := val_bound (l.take k) k (by omega) (by rw [List.length_take]; omega)
    exact Nat.lt_of_lt_of_le this (by rw [show 16777216 = 2 ^ 24 from rfl]; exact Nat.pow_le_pow_right (by omega) (by omega)))
  have HS := Lib.hid (show ∀ k, k < l.length → val (l.take (k + 1)) = (val (l.take k) * 256 + (bat l k).toNat) % 18446744073709551616 from fun k hk => by rw [btake_snoc hk, val_snoc])
  have HE := Lib.hid (show l.take l.length = l from List.take_length)
  generalize hn : l.length = n at *
  have Hr := Lib.hid h
  clear h hn h1 h2
  go_enter Try.func49, Try.ntmps49
  go_wp2_with fail
  go_loop [3, 8] (fun rv kv => ∃ k : Nat, k ≤ n ∧ kv = .int .i64 (k : Int) ∧ rv = .int .i64 (val (l.take k) : Int)) (fun _ kv => n - (intOf kv).toNat)
  case atStart => exact ⟨0, by omega, rfl, rfl⟩
  case round =>
    obtain ⟨k, hk, rfl, rfl⟩ := hrel
    by_cases hlt : k < n
    · have hl := HVB.out k hlt
      obtain ⟨b, off, rfl, c0⟩ := Hr.out.at hlt
      have HK := Lib.hid (HS.out k hlt)
      generalize val (l.take k) = q at *
      generalize bat l k = x at *
      have b3 := x.toNat_lt
      have B1 := Lib.hid (val_bits64 q x hl)
      go_wp2_with fail
      exact ⟨⟨k + 1, by omega, by go_num, by rw [B1.out, HK.out, Nat.mod_eq_of_lt (by omega)]⟩, by simp [intOf]; omega⟩
    · obtain rfl : k = n := by omega
      have HF := Lib.hid (show val (l.take k) = val l by rw [HE.out])
      generalize val (l.take k) = q at *
      go_wp2_with fail
      go_ret
      exact ⟨ret_int (by rw [HF.out]), rfl⟩
set_option maxHeartbeats 1000000 in
theorem svalid_any (s : Sup) (w : World) (h1 : s.slot < 4294967296) (h2 : s.gen < 4294967296) (h3 : s.rev < 4294967296) : Calls Try.prog 50 #[supV s] w fun e w' => e = .returned (.bool (decide (svld s))) ∧ Below w.heap.size w w' := by
  have HB := Lib.hid (show Below w.heap.size w (w.alloc (.cells #[.int .i64 (s.slot : Int), .int .i64 (s.gen : Int), .int .i64 (s.rev : Int)] 37)) from (Below.refl _ _).alloc (Nat.le_refl _) _)
  obtain ⟨q, hq⟩ : ∃ q, decide (svld s) = q := ⟨_, rfl⟩
  have HQ := Lib.hid (show q = decide (s.slot < 4 ∧ 1 ≤ s.gen ∧ s.gen ≤ 8 ∧ s.rev ≤ 4294967295) by rw [← hq]; rfl)
  rw [hq]
  clear hq
  obtain ⟨a, b, c⟩ := s
  simp only at *
  have d0 : decide ((0 : Int) ≤ (a : Int)) = true := by simp
  have d4 : decide ((0 : Int) ≤ (c : Int)) = true := by simp
  by_cases c1 : a < 4
  · have d1 : decide ((a : Int) < 4) = true := by simp; omega
    by_cases c2 : 1 ≤ b
    · have d2 : decide ((1 : Int) ≤ (b : Int)) = true := by simp; omega
      by_cases c3 : b ≤ 8
      · have d3 : decide ((b : Int) ≤ 8) = true := by simp; omega
        have d5 : decide ((c : Int) ≤ 4294967295) = true := by simp; omega
        have HV := Lib.hid (show q = true by rw [HQ.out]; exact decide_eq_true (by omega))
        go_enter Try.func50, Try.ntmps50
        go_wp2_with fail
        go_ret
        exact ⟨by rw [HV.out]; rfl, HB.out⟩
      · have d3 : decide ((b : Int) ≤ 8) = false := by simp; omega
        have HV := Lib.hid (show q = false by rw [HQ.out]; exact decide_eq_false (by omega))
        go_enter Try.func50, Try.ntmps50
        go_wp2_with fail
        go_ret
        exact ⟨by rw [HV.out]; rfl, HB.out⟩
    · have d2 : decide ((1 : Int) ≤ (b : Int)) = false := by simp; omega
      have HV := Lib.hid (show q = false by rw [HQ.out]; exact decide_eq_false (by omega))
      go_enter Try.func50, Try.ntmps50
      go_wp2_with fail
      go_ret
      exact ⟨by rw [HV.out]; rfl, HB.out⟩
  · have d1 : decide ((a : Int) < 4) = false := by simp; omega
    have HV := Lib.hid (show q = false by rw [HQ.out]; exact decide_eq_false (by omega))
    go_enter Try.func50, Try.ntmps50
    go_wp2_with fail
    go_ret
    exact ⟨by rw [HV.out]; rfl, HB.out⟩
set_option maxHeartbeats 1000000 in
theorem rsvalid_any (s : Sup) (w : World) (h1 : s.slot < 4294967296) (h2 : s.gen < 4294967296) (h3 : s.rev < 4294967296) : Calls Try.prog 43 #[supV s] w fun e w' => e = .returned (.bool (decide (svld s))) ∧ Below w.heap.size w w' := by
  have HB := Lib.hid (show Below w.heap.size w (w.alloc (.cells #[.int .i64 (s.slot : Int), .int .i64 (s.gen : Int), .int .i64 (s.rev : Int)] 37)) from (Below.refl _ _).alloc (Nat.le_refl _) _)
  obtain ⟨q, hq⟩ : ∃ q, decide (svld s) = q := ⟨_, rfl⟩
  have HQ := Lib.hid (show q = decide (s.slot < 4 ∧ 1 ≤ s.gen ∧ s.gen ≤ 8 ∧ s.rev ≤ 4294967295) by rw [← hq]; rfl)
  rw [hq]
  clear hq
  obtain ⟨a, b, c⟩ := s
  simp only at *
  have d0 : decide ((0 : Int) ≤ (a : Int)) = true := by simp
  have d4 : decide ((0 : Int) ≤ (c : Int)) = true := by simp
  by_cases c1 : a < 4
  · have d1 : decide ((a : Int) < 4) = true := by simp; omega
    by_cases c2 : 1 ≤ b
    · have d2 : decide ((1 : Int) ≤ (b : Int)) = true := by simp; omega
      by_cases c3 : b ≤ 8
      · have d3 : decide ((b : Int) ≤ 8) = true := by simp; omega
        have d5 : decide ((c : Int) < 4294967296) = true := by simp; omega
        have HV := Lib.hid (show q = true by rw [HQ.out]; exact decide_eq_true (by omega))
        go_enter Try.func43, Try.ntmps43
        go_wp2_with fail
        go_ret
        exact ⟨by rw [HV.out]; rfl, HB.out⟩
      · have d3 : decide ((b : Int) ≤ 8) = false := by simp; omega
        have HV := Lib.hid (show q = false by rw [HQ.out]; exact decide_eq_false (by omega))
        go_enter Try.func43, Try.ntmps43
        go_wp2_with fail
        go_ret
        exact ⟨by rw [HV.out]; rfl, HB.out⟩
    · have d2 : decide ((1 : Int) ≤ (b : Int)) = false := by simp; omega
      have HV := Lib.hid (show q = false by rw [HQ.out]; exact decide_eq_false (by omega))
      go_enter Try.func43, Try.ntmps43
      go_wp2_with fail
      go_ret
      exact ⟨by rw [HV.out]; rfl, HB.out⟩
  · have d1 : decide ((a : Int) < 4) = false := by simp; omega
    have HV := Lib.hid (show q = false by rw [HQ.out]; exact decide_eq_false (by omega))
    go_enter Try.func43, Try.ntmps43
    go_wp2_with fail
    go_ret
    exact ⟨by rw [HV.out]; rfl, HB.out⟩
abbrev arr4 (l : List UInt8) : Value := .agg (l.map byteV).toArray
theorem slittle_any (c : Nat) (w : World) (h : c < 4294967296) : Calls Try.prog 48 #[.int .u32 (c : Int)] w fun e w' => e = .returned (arr4 (le4 c)) ∧ Below w.heap.size w w' := by
  have HE := Lib.hid (le4_cells c h)
  go_enter Try.func48, Try.ntmps48
  go_wp2_with fail
  exact bodyPost_ret (v := .agg #[.int .u8 ((c : Int) % 256), .int .u8 ((c : Int) / 256 % 256), .int .u8 ((c : Int) / 65536 % 256), .int .u8 ((c : Int) / 16777216)]) (by simp [results, Try.results48, go_sem]) rfl ⟨by rw [HE.out], (Below.refl _ _).alloc (Nat.le_refl _) _⟩
end Go.Proofs.Ytecflhklpkjhcaa
