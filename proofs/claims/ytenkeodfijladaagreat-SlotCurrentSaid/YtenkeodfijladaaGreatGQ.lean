/- Several texts in one, each over the last: The checksum CRC-32C, in plain numbers. No program here. Numbers as bytes, the most significant one first, in plain Lean. No program here. The walks over the checksum, the program's and the reference's. The bytes of a list of items, in plain Lean. No program here. The walks over numbers as bytes: big, number, sum and the reference's Number, Value, Check. Reading the bytes of a list of items, in plain Lean. No program here. Bytes read back, in plain Lean. No program here. The record of a needle, in plain Lean: written, read, torn. No program here. The walks over needle's small functions. -/
import Derived.Test.YtenkeodfijladaaGreatIt
import Derived.Laws.BitsAllLaws
import Derived.Test.YtenkeodfijladaaGreatPi
import Derived.Laws.OwnMore
import Derived.Deep.RegionWith
import Derived.Deep.RegionLaw
import Derived.Lib.OwnKind
import Derived.OneCell
namespace Go.Proofs.YtenkeodfijladaaGreat.Crc

def poly : Nat := 2197175160
def st (r : Nat) : Nat := if r % 2 = 1 then (r / 2) ^^^ poly else r / 2
theorem st_lt {r : Nat} (h : r < 4294967296) : st r < 4294967296 := by
  unfold st
  split
  · exact Nat.xor_lt_two_pow (n := 32) (by omega) (by unfold poly; omega)
  · omega
def stk : Nat → Nat → Nat
  | 0, r => r
  | k + 1, r => st (stk k r)
theorem stk_lt {r : Nat} (h : r < 4294967296) : ∀ k, stk k r < 4294967296
  | 0 => h
  | k + 1 => st_lt (stk_lt h k)
def add (r : Nat) (x : UInt8) : Nat := stk 8 (r ^^^ x.toNat)
theorem xor_lt {r s : Nat} (h : r < 4294967296) (hs : s < 4294967296) : r ^^^ s < 4294967296 := Nat.xor_lt_two_pow (n := 32) h hs
theorem add_lt {r : Nat} (h : r < 4294967296) (x : UInt8) : add r x < 4294967296 := stk_lt (xor_lt h (by have := x.toNat_lt; omega)) 8
def ext (r : Nat) (l : List UInt8) : Nat := l.foldl add r
theorem ext_lt : ∀ (l : List UInt8) {r : Nat}, r < 4294967296 → ext r l < 4294967296
  | [], _, h => h
  | x :: l, _, h => ext_lt l (add_lt h x)
theorem ext_snoc (r : Nat) (l : List UInt8) (x : UInt8) : ext r (l ++ [x]) = add (ext r l) x := by simp [ext]
/-- The checksum. -/
def sum (l : List UInt8) : Nat := 4294967295 - ext 4294967295 l
theorem sum_lt (l : List UInt8) : sum l < 4294967296 := by unfold sum; omega
end Go.Proofs.YtenkeodfijladaaGreat.Crc

namespace Go.Proofs.YtenkeodfijladaaGreat

/-- The byte at a place; 0 where there is none. -/
def bat (l : List UInt8) (j : Nat) : UInt8 := l.getD j 0
theorem btake_snoc {l : List UInt8} {j : Nat} (h : j < l.length) : l.take (j + 1) = l.take j ++ [bat l j] := by
  rw [List.take_succ_eq_append_getElem h]
  congr
  unfold bat
  rw [List.getD_eq_getElem?_getD, List.getElem?_eq_getElem h]; rfl
/-- The last n bytes of v. -/
def be (v n : Nat) : List UInt8 := (List.range n).map fun j => UInt8.ofNat (v / 2 ^ (8 * (n - 1 - j)))
theorem be_length (v n : Nat) : (be v n).length = n := by simp [be]
theorem be_at {v n j : Nat} (h : j < n) : bat (be v n) j = UInt8.ofNat (v / 2 ^ (8 * (n - 1 - j))) := by
  unfold bat be
  rw [List.getD_eq_getElem?_getD, List.getElem?_map, List.getElem?_range h]; rfl
/-- The number that bytes are, in 64 bits. -/
def val (l : List UInt8) : Nat := l.foldl (fun n x => (n * 256 + x.toNat) % 18446744073709551616) 0
theorem val_snoc (l : List UInt8) (x : UInt8) : val (l ++ [x]) = (val l * 256 + x.toNat) % 18446744073709551616 := by simp [val]
theorem val_lt (l : List UInt8) : val l < 18446744073709551616 := by
  rcases List.eq_nil_or_concat l with rfl | ⟨r, x, rfl⟩
  · simp [val]
  · rw [List.concat_eq_append, val_snoc]; omega
theorem val_or (v : Nat) (x : UInt8) : (v * 256 % 18446744073709551616) ||| x.toNat = (v * 256 + x.toNat) % 18446744073709551616 := by
  have hx := x.toNat_lt
  have e : v * 256 % 18446744073709551616 = 2 ^ 8 * (v % 72057594037927936) := by omega
  rw [e, ← Nat.two_pow_add_eq_or_of_lt (i := 8) (by omega)]
  omega
/-- Four bytes of a number, the least significant one first. -/
def le4 (c : Nat) : List UInt8 := [UInt8.ofNat c, UInt8.ofNat (c / 2 ^ 8), UInt8.ofNat (c / 2 ^ 16), UInt8.ofNat (c / 2 ^ 24)]
end Go.Proofs.YtenkeodfijladaaGreat

namespace Go.Proofs.YtenkeodfijladaaGreat
open Go.RowKit

theorem low_bit (r : Nat) (h : r < 4294967296) : bits .and .u32 (r : Int) 1 = ((r % 2 : Nat) : Int) := by
  have := u32_and_nat r 1 h (by decide)
  rw [show ((1 : Nat) : Int) = 1 from rfl] at this
  rw [this, Nat.and_one_is_mod]
theorem xor_poly (r : Nat) (h : r < 4294967296) : bits .xor .u32 (r : Int) 2197175160 = ((r ^^^ Crc.poly : Nat) : Int) := by
  have := u32_xor_nat r 2197175160 h (by decide)
  rwa [show ((2197175160 : Nat) : Int) = 2197175160 from rfl] at this
set_option maxHeartbeats 400000 in
theorem rshift_any (r : Nat) (w : World) (h : r < 4294967296) :
    Calls Tryz.prog 210 #[.int .u32 (r : Int)] w fun e w' => e = .returned (.int .u32 (Crc.stk 8 r : Int)) ∧ w = w' := by
  go_enter Tryz.func210, Tryz.ntmps210
  go_wp2_with fail
  go_loop [0, 3] (fun rv kv => ∃ k : Nat, k ≤ 8 ∧ kv = .int .i64 (k : Int) ∧ rv = .int .u32 (Crc.stk k r : Int)) (fun _ kv => 8 - (intOf kv).toNat)
  case atStart => exact ⟨0, by omega, rfl, rfl⟩
  case round =>
    obtain ⟨k, hk, rfl, rfl⟩ := hrel
    have hl := Crc.stk_lt h k
    have HS := Lib.hid (show Crc.stk (k + 1) r = Crc.st (Crc.stk k r) from rfl)
    have HE := Lib.hid (show ∀ j, j = 8 → Crc.stk j r = Crc.stk 8 r from fun j e => by rw [e])
    have HK := Lib.hid (show ∃ q, Crc.stk k r = q from ⟨_, rfl⟩)
    generalize hq : Crc.stk k r = q at *
    have HQ := Lib.hid hq
    clear HK hq
    have b1 := low_bit q hl
    have b2 := xor_poly (q / 2) (by omega)
    rw [show ((q / 2 : Nat) : Int) = (q : Int) / 2 from rfl] at b2
    by_cases hlt : k < 8
    · rcases Nat.mod_two_eq_zero_or_one q with h0 | h1
      · rw [h0] at b1
        have b3 : (((0 : Nat) : Int) == 1) = false := by decide
        go_wp2_with fail
        refine ⟨⟨k + 1, by omega, by go_num, ?_⟩, by simp [intOf]; omega⟩
        rw [HS.out, Crc.st, if_neg (by omega)]; go_num
      · rw [h1] at b1
        go_wp2_with fail
        refine ⟨⟨k + 1, by omega, by go_num, ?_⟩, by simp [intOf]; omega⟩
        rw [HS.out, Crc.st, if_pos h1]
    · obtain rfl : k = 8 := by omega
      go_wp2_with fail
      go_ret
      exact ⟨ret_int (congrArg Nat.cast HQ.out.symm), rfl⟩

theorem RdB.shape0 {w : World} {v : Value} {l : List UInt8} (h : RdB w v l) : ∃ a cap, v = .slice a l.length cap ∧ l.length ≤ cap ∧ cap ≤ maxLen := by
  obtain ⟨a, cap, h1, h2, h3, _⟩ := RdL.shape h 0
  exact ⟨a, cap, h1, h2, h3⟩
theorem RdB.at {w : World} {a : Option Addr} {n cap : Nat} {l : List UInt8} (h : RdB w (.slice a n cap) l) {j : Nat} (hj : j < n) : ∃ b off, a = some ⟨b, off, none⟩ ∧ w.cell? ⟨b, off + j, none⟩ = some (.int .u8 ((bat l j).toNat : Int)) := by
  obtain ⟨a', cap', e, h2, h3, _, h5⟩ := RdL.shape h 0
  injection e with e1 e2 e3
  subst e1 e2 e3
  obtain ⟨b, off, e, hc⟩ := h5 (by omega)
  exact ⟨b, off, e, hc j hj⟩
theorem xor_byte (r : Nat) (x : UInt8) (h : r < 4294967296) : bits .xor .u32 (r : Int) (x.toNat : Int) = ((r ^^^ x.toNat : Nat) : Int) := u32_xor_nat r x.toNat h (by have := x.toNat_lt; omega)
theorem not_nat (c : Nat) (h : c < 4294967296) : 4294967295 ^^^ c = 4294967295 - c := by
  have h1 : (BitVec.allOnes 32 ^^^ BitVec.ofNat 32 c).toNat = (~~~(BitVec.ofNat 32 c)).toNat := by rw [BitVec.allOnes_xor]
  rw [BitVec.toNat_xor, BitVec.toNat_not, BitVec.toNat_ofNat, Nat.mod_eq_of_lt (show c < 2 ^ 32 by omega), BitVec.toNat_allOnes] at h1
  exact h1
theorem not_u32 (c : Nat) (h : c < 4294967296) : bits .xor .u32 IntKind.u32.max (c : Int) = ((4294967295 - c : Nat) : Int) := by
  have := u32_xor_nat 4294967295 c (by decide) h
  rw [not_nat c h] at this
  exact this
set_option maxHeartbeats 400000 in
theorem rext_any (c : Nat) (v : Value) (l : List UInt8) (w : World) (hc : c < 4294967296) (h : RdB w v l) :
    Calls Tryz.prog 195 #[.int .u32 (c : Int), v] w fun e w' => e = .returned (.int .u32 ((4294967295 - Crc.ext (4294967295 - c) l : Nat) : Int)) ∧ w = w' := by
  obtain ⟨a, cap, rfl, h1, h2⟩ := h.shape0
  have hm := lt63 h1 h2
  have HS := Lib.hid (show ∀ k, k < l.length → Crc.ext (4294967295 - c) (l.take (k + 1)) = Crc.add (Crc.ext (4294967295 - c) (l.take k)) (bat l k) from fun k hk => by rw [btake_snoc hk, Crc.ext_snoc])
  have HE := Lib.hid (show l.take l.length = l from List.take_length)
  generalize hn : l.length = n at *
  have Hr := Lib.hid h
  clear h hn h1 h2
  have n1 := not_u32 c hc
  go_enter Tryz.func195, Tryz.ntmps195
  go_wp2_with fail
  clear n1
  go_loop [5, 6] (fun rv kv => ∃ k : Nat, k ≤ n ∧ kv = .int .i64 (k : Int) ∧ rv = .int .u32 (Crc.ext (4294967295 - c) (l.take k) : Int)) (fun _ kv => n - (intOf kv).toNat)
  case atStart => exact ⟨0, by omega, rfl, by simp [Crc.ext]⟩
  case round =>
    obtain ⟨k, hk, rfl, rfl⟩ := hrel
    have hl := Crc.ext_lt (l.take k) (r := 4294967295 - c) (by omega)
    by_cases hlt : k < n
    · obtain ⟨b, off, rfl, c0⟩ := Hr.out.at hlt
      have HK := Lib.hid (HS.out k hlt)
      generalize Crc.ext (4294967295 - c) (l.take k) = q at *
      generalize bat l k = x at *
      have b1 := xor_byte q x hl
      have b3 := x.toNat_lt
      have HR := Lib.hid (fun w => rshift_any (q ^^^ x.toNat) w (Crc.xor_lt hl (by omega)))
      have HA := Lib.hid (show Crc.add q x = Crc.stk 8 (q ^^^ x.toNat) from rfl)
      generalize (q ^^^ x.toNat : Nat) = y at *
      go_wp2_with fail
      refine (HR.out _).mono ?_; rintro e w1 ⟨rfl, rfl⟩
      go_wp2_with fail
      exact ⟨⟨k + 1, by omega, by go_num, by rw [HK.out, HA.out]⟩, by simp [intOf]; omega⟩
    · obtain rfl : k = n := by omega
      have HF := Lib.hid (show Crc.ext (4294967295 - c) (l.take k) = Crc.ext (4294967295 - c) l by rw [HE.out])
      generalize Crc.ext (4294967295 - c) (l.take k) = q at *
      have n1 := not_u32 q hl
      go_wp2_with fail
      go_ret
      exact ⟨ret_int (by rw [← HF.out]), rfl⟩
set_option maxHeartbeats 400000 in
theorem ext_any (c : Nat) (v : Value) (l : List UInt8) (w : World) (hc : c < 4294967296) (h : RdB w v l) :
    Calls Tryz.prog 181 #[.int .u32 (c : Int), v] w fun e w' => e = .returned (.int .u32 ((4294967295 - Crc.ext (4294967295 - c) l : Nat) : Int)) ∧ w = w' := by
  obtain ⟨a, cap, rfl, h1, h2⟩ := h.shape0
  have hm := lt63 h1 h2
  have HS := Lib.hid (show ∀ k, k < l.length → Crc.ext (4294967295 - c) (l.take (k + 1)) = Crc.add (Crc.ext (4294967295 - c) (l.take k)) (bat l k) from fun k hk => by rw [btake_snoc hk, Crc.ext_snoc])
  have HE := Lib.hid (show l.take l.length = l from List.take_length)
  generalize hn : l.length = n at *
  have Hr := Lib.hid h
  clear h hn h1 h2
  have n1 := not_u32 c hc
  go_enter Tryz.func181, Tryz.ntmps181
  go_wp2_with fail
  clear n1
  go_loop [5, 13] (fun rv kv => ∃ k : Nat, k ≤ n ∧ kv = .int .i64 (k : Int) ∧ rv = .int .u32 (Crc.ext (4294967295 - c) (l.take k) : Int)) (fun _ kv => n - (intOf kv).toNat)
  case atStart => exact ⟨0, by omega, rfl, by simp [Crc.ext]⟩
  case round =>
    obtain ⟨k, hk, rfl, rfl⟩ := hrel
    have hl := Crc.ext_lt (l.take k) (r := 4294967295 - c) (by omega)
    by_cases hlt : k < n
    · obtain ⟨b, off, rfl, c0⟩ := Hr.out.at hlt
      have HK := Lib.hid (HS.out k hlt)
      generalize Crc.ext (4294967295 - c) (l.take k) = q at *
      generalize bat l k = x at *
      have b1 := xor_byte q x hl
      have b3 := x.toNat_lt
      have HA := Lib.hid (show Crc.add q x = Crc.stk 8 (q ^^^ x.toNat) from rfl)
      have hy := Crc.xor_lt hl (show x.toNat < 4294967296 by omega)
      generalize (q ^^^ x.toNat : Nat) = y at *
      go_wp2_with fail
      go_loop [5, 21] (fun rv iv => ∃ i : Nat, i ≤ 8 ∧ iv = .int .i64 (i : Int) ∧ rv = .int .u32 (Crc.stk i y : Int)) (fun _ iv => 8 - (intOf iv).toNat)
      case atStart => exact ⟨0, by omega, rfl, rfl⟩
      case round =>
        obtain ⟨i, hi, rfl, rfl⟩ := hrel
        have hz := Crc.stk_lt hy i
        have HSt := Lib.hid (show Crc.stk (i + 1) y = Crc.st (Crc.stk i y) from rfl)
        have HQ := Lib.hid (show ∀ j, j = 8 → Crc.stk j y = Crc.stk 8 y from fun j e => by rw [e])
        generalize hq : Crc.stk i y = z at *
        have HZ := Lib.hid hq
        clear hq
        have e1 := low_bit z hz
        have e2 := xor_poly (z / 2) (by omega)
        rw [show ((z / 2 : Nat) : Int) = (z : Int) / 2 from rfl] at e2
        by_cases hi8 : i < 8
        · rcases Nat.mod_two_eq_zero_or_one z with h0 | h1
          · rw [h0] at e1
            have e3 : (((0 : Nat) : Int) == 1) = false := by decide
            go_wp2_with fail
            refine ⟨⟨i + 1, by omega, by go_num, ?_⟩, by simp [intOf]; omega⟩
            rw [HSt.out, Crc.st, if_neg (by omega)]; go_num
          · rw [h1] at e1
            go_wp2_with fail
            refine ⟨⟨i + 1, by omega, by go_num, ?_⟩, by simp [intOf]; omega⟩
            rw [HSt.out, Crc.st, if_pos h1]
        · obtain rfl : i = 8 := by omega
          go_wp2_with fail
          exact ⟨⟨k + 1, by omega, by go_num, by rw [HK.out, HA.out, HZ.out]⟩, by simp [intOf]; omega⟩
    · obtain rfl : k = n := by omega
      have HF := Lib.hid (show Crc.ext (4294967295 - c) (l.take k) = Crc.ext (4294967295 - c) l by rw [HE.out])
      generalize Crc.ext (4294967295 - c) (l.take k) = q at *
      have n1 := not_u32 q hl
      go_wp2_with fail
      go_ret
      exact ⟨ret_int (by rw [← HF.out]), rfl⟩
theorem rsum_any (v : Value) (l : List UInt8) (w : World) (h : RdB w v l) :
    Calls Tryz.prog 182 #[v] w fun e w' => e = .returned (.int .u32 (Crc.sum l : Int)) ∧ w = w' := by
  have HX := Lib.hid (rext_any 0 v l w (by decide) h)
  have HS := Lib.hid (show Crc.sum l = 4294967295 - Crc.ext (4294967295 - 0) l from rfl)
  generalize (4294967295 - Crc.ext (4294967295 - 0) l : Nat) = r at *
  go_enter Tryz.func182, Tryz.ntmps182
  go_wp2_with fail
  refine HX.out.mono ?_; rintro e w1 ⟨rfl, rfl⟩
  go_wp2_with fail
  go_ret
  exact ⟨ret_int (congrArg Nat.cast HS.out.symm), rfl⟩
theorem sum_any (v : Value) (l : List UInt8) (w : World) (h : RdB w v l) :
    Calls Tryz.prog 140 #[v] w fun e w' => e = .returned (.int .u32 (Crc.sum l : Int)) ∧ w = w' := by
  have HX := Lib.hid (ext_any 0 v l w (by decide) h)
  have HS := Lib.hid (show Crc.sum l = 4294967295 - Crc.ext (4294967295 - 0) l from rfl)
  generalize (4294967295 - Crc.ext (4294967295 - 0) l : Nat) = r at *
  go_enter Tryz.func140, Tryz.ntmps140
  go_wp2_with fail
  refine HX.out.mono ?_; rintro e w1 ⟨rfl, rfl⟩
  go_wp2_with fail
  go_ret
  exact ⟨ret_int (congrArg Nat.cast HS.out.symm), rfl⟩
end Go.Proofs.YtenkeodfijladaaGreat

namespace Go.Proofs.YtenkeodfijladaaGreat

/-- The checksum of bytes, as bytes. -/
def ck (l : List UInt8) : List UInt8 := le4 (Crc.sum l)
/-- The key and the cookie fit. -/
def It.Kwf (x : It) : Prop := 0 ≤ x.key ∧ x.key < 18446744073709551616 ∧ 0 ≤ x.ck ∧ x.ck < 4294967296
/-- The first twenty bytes of an entry. -/
def ent20 (x : It) : List UInt8 := be x.key.toNat 8 ++ be x.ck.toNat 4 ++ be x.off.toNat 4 ++ be x.size.toNat 4
def entB (x : It) : List UInt8 := ent20 x ++ ck (ent20 x)
/-- The bytes of a list. -/
def encB (l : List It) : List UInt8 := l.flatMap entB
theorem ent20_length (x : It) : (ent20 x).length = 20 := by simp [ent20, be_length]
theorem entB_length (x : It) : (entB x).length = 24 := by simp [entB, ent20_length, ck, le4]
theorem encB_length : ∀ l : List It, (encB l).length = 24 * l.length
  | [] => rfl
  | x :: l => by
    have := encB_length l
    unfold encB at *
    rw [List.flatMap_cons, List.length_append, entB_length, this, List.length_cons]; omega
theorem encB_snoc (l : List It) (x : It) : encB (l ++ [x]) = encB l ++ entB x := by simp [encB]
end Go.Proofs.YtenkeodfijladaaGreat

namespace Go.Proofs.YtenkeodfijladaaGreat
open Go.RowKit

theorem infoB : (Tryz.prog.info? 5).map (fun i => (i.zero, i.size, i.bytes)) = some (some (.int .u8 0), 1, 1) := by kernel_rfl
theorem elemB : ElemT Tryz.prog 70 5 1 1 := by
  obtain ⟨i, h1, h2, h3, h4⟩ := info_parts infoB
  exact ⟨Tryz.underlying70, by decide, i, _, h1, h2, h3, h4, rfl⟩
/-- v is a slice of bytes of the call's own, in a block from base on. -/
abbrev OwnB (w : World) (base : Nat) (v : Value) (l : List UInt8) : Prop := w.ownsRow base 5 1 v l.length (l.map byteV)
theorem OwnB.rd {w : World} {base : Nat} {v : Value} {l : List UInt8} (h : OwnB w base v l) : RdB w v l := own_rdl h
theorem rd_byte (w : World) (x : UInt8) (e : TypeId) : Rd (w.alloc (.cells #[.int .u8 (x.toNat : Int)] e)) 1 (.slice (some ⟨w.heap.size, 0, none⟩) 1 1) 1 ([x].map byteV) := Rd.new w 1 _ e 1 rfl (by decide)
theorem byte_be (v m : Nat) : ((v : Int) / 2 ^ m % 256) = ((UInt8.ofNat (v / 2 ^ m)).toNat : Int) := by
  rw [UInt8.toNat_ofNat', Int.natCast_emod, Int.natCast_ediv, Int.natCast_pow]; rfl
end Go.Proofs.YtenkeodfijladaaGreat

namespace Go.Proofs.YtenkeodfijladaaGreat

/-- An entry's item. -/
def dec1 (b : List UInt8) : It := ⟨(val (b.take 8) : Int), (val ((b.drop 8).take 4) : Int), (val ((b.drop 12).take 4) : Int), (val ((b.drop 16).take 4) : Int)⟩
/-- The items behind acc, or the error's number. -/
def decF : Nat → List UInt8 → List It → Int × List It
  | 0, _, acc => (0, acc)
  | n + 1, b, acc => if b.length = 0 then (0, acc) else if b.length < 24 then (4, []) else if ck (b.take 20) = (b.drop 20).take 4 then decF n (b.drop 24) (acc ++ [dec1 b]) else (5, [])
theorem decF_nil (n : Nat) (b : List UInt8) (acc : List It) (h : b.length = 0) : decF n b acc = (0, acc) := by
  cases n with
  | zero => rfl
  | succ n => unfold decF; rw [if_pos h]
theorem decF_short (n : Nat) (b : List UInt8) (acc : List It) (h0 : b.length ≠ 0) (h : b.length < 24) : decF (n + 1) b acc = (4, []) := by
  unfold decF; rw [if_neg h0, if_pos h]
theorem decF_check (n : Nat) (b : List UInt8) (acc : List It) (h0 : b.length ≠ 0) (h : ¬ b.length < 24) (h2 : ck (b.take 20) ≠ (b.drop 20).take 4) : decF (n + 1) b acc = (5, []) := by
  unfold decF; rw [if_neg h0, if_neg h, if_neg h2]
theorem decF_step (n : Nat) (b : List UInt8) (acc : List It) (h0 : b.length ≠ 0) (h : ¬ b.length < 24) (h2 : ck (b.take 20) = (b.drop 20).take 4) : decF (n + 1) b acc = decF n (b.drop 24) (acc ++ [dec1 b]) := by
  conv => lhs; unfold decF
  rw [if_neg h0, if_neg h, if_pos h2]
/-- The documented list, or the error's number. -/
def dec (b : List UInt8) : Int × List It := if (decF b.length b []).1 = 0 then (if vldB (decF b.length b []).2 then (0, (decF b.length b []).2) else (3, [])) else ((decF b.length b []).1, [])
theorem dec_of {b : List UInt8} {r : Int} {l : List It} (h : decF b.length b [] = (r, l)) : dec b = if r = 0 then (if vldB l then (0, l) else (3, [])) else (r, []) := by
  unfold dec; rw [h]
theorem val4_lt {l : List UInt8} (h : l.length ≤ 4) : val l < 4294967296 := by
  match l, h with
  | [], _ => simp [val]
  | [a], _ => simp only [val, List.foldl_cons, List.foldl_nil]; have := a.toNat_lt; omega
  | [a, b], _ => simp only [val, List.foldl_cons, List.foldl_nil]; have := a.toNat_lt; have := b.toNat_lt; omega
  | [a, b, c], _ => simp only [val, List.foldl_cons, List.foldl_nil]; have := a.toNat_lt; have := b.toNat_lt; have := c.toNat_lt; omega
  | [a, b, c, d], _ => simp only [val, List.foldl_cons, List.foldl_nil]; have := a.toNat_lt; have := b.toNat_lt; have := c.toNat_lt; have := d.toNat_lt; omega
end Go.Proofs.YtenkeodfijladaaGreat

namespace Go.Proofs.YtenkeodfijladaaGreat

theorem be_succ (v n : Nat) : be v (n + 1) = be (v / 256) n ++ [UInt8.ofNat v] := by
  unfold be
  rw [List.range_succ, List.map_append]
  congr 1
  · refine List.map_congr_left fun j hj => ?_
    have hj := List.mem_range.1 hj
    rw [show n + 1 - 1 - j = (n - 1 - j) + 1 by omega, show 8 * ((n - 1 - j) + 1) = 8 + 8 * (n - 1 - j) by omega, Nat.pow_add, ← Nat.div_div_eq_div_mul]
  · simp
theorem val_be : ∀ (n v : Nat), n ≤ 8 → v < 2 ^ (8 * n) → val (be v n) = v
  | 0, v, _, h => by
    have : v = 0 := by simpa using h
    subst this; rfl
  | n + 1, v, hn, h => by
    have h2 : v / 256 < 2 ^ (8 * n) := by
      rw [show 8 * (n + 1) = 8 * n + 8 by omega, Nat.pow_add] at h
      exact Nat.div_lt_of_lt_mul (by rw [Nat.mul_comm]; exact h)
    have h3 : (2 : Nat) ^ (8 * (n + 1)) ≤ 2 ^ 64 := Nat.pow_le_pow_right (by decide) (by omega)
    rw [be_succ, val_snoc, val_be n (v / 256) (by omega) h2, UInt8.toNat_ofNat']
    omega
theorem val_bound (l : List UInt8) : ∀ n, n ≤ 8 → l.length = n → val l < 2 ^ (8 * n) := by
  intro n
  induction n generalizing l with
  | zero => intro _ h; have : l = [] := List.length_eq_zero_iff.1 h; subst this; simp [val]
  | succ n ih =>
    intro hn h
    rcases List.eq_nil_or_concat l with rfl | ⟨r, x, rfl⟩
    · simp at h
    · rw [List.concat_eq_append] at h ⊢
      have hr := ih r (by omega) (by simpa using h)
      have hx := x.toNat_lt
      rw [val_snoc]
      have e : (2 : Nat) ^ (8 * (n + 1)) = 2 ^ (8 * n) * 256 := by rw [show 8 * (n + 1) = 8 * n + 8 by omega, Nat.pow_add]
      have := Nat.mod_le (val r * 256 + x.toNat) 18446744073709551616
      omega
theorem be_val : ∀ (n : Nat) (l : List UInt8), n ≤ 8 → l.length = n → be (val l) n = l
  | 0, l, _, h => by
    have : l = [] := List.length_eq_zero_iff.1 h
    subst this; rfl
  | n + 1, l, hn, h => by
    rcases List.eq_nil_or_concat l with rfl | ⟨r, x, rfl⟩
    · simp at h
    · rw [List.concat_eq_append] at h ⊢
      have hl : r.length = n := by simpa using h
      have hb := val_bound r n (by omega) hl
      have h3 : (2 : Nat) ^ (8 * n) ≤ 2 ^ 56 := Nat.pow_le_pow_right (by decide) (by omega)
      have hx := x.toNat_lt
      have hv : val (r ++ [x]) = val r * 256 + x.toNat := by rw [val_snoc]; omega
      rw [be_succ, hv, show (val r * 256 + x.toNat) / 256 = val r by omega, be_val n r (by omega) hl]
      congr 2
      apply UInt8.toNat_inj.1
      rw [UInt8.toNat_ofNat']; omega
/-- An item that can be written: its numbers fit their places. -/
def Fits (x : It) : Prop := 0 ≤ x.key ∧ x.key < 18446744073709551616 ∧ 0 ≤ x.ck ∧ x.ck < 4294967296 ∧ 0 ≤ x.off ∧ x.off < 4294967296 ∧ 0 ≤ x.size ∧ x.size < 4294967296
theorem fits_of {x : It} (h1 : x.Kwf) (h2 : okP x) : Fits x := by
  obtain ⟨a, b, c, d⟩ := h1
  obtain ⟨e, f, _, g, i⟩ := h2
  exact ⟨a, b, c, d, by omega, by omega, g, by omega⟩
theorem dec1_ent (x : It) (h : Fits x) (r : List UInt8) : dec1 (ent20 x ++ r) = x := by
  obtain ⟨k1, k2, c1, c2, o1, o2, s1, s2⟩ := h
  obtain ⟨k, c, o, s⟩ := x
  simp only [] at k1 k2 c1 c2 o1 o2 s1 s2
  obtain ⟨k, rfl⟩ := Int.eq_ofNat_of_zero_le k1
  obtain ⟨c, rfl⟩ := Int.eq_ofNat_of_zero_le c1
  obtain ⟨o, rfl⟩ := Int.eq_ofNat_of_zero_le o1
  obtain ⟨s, rfl⟩ := Int.eq_ofNat_of_zero_le s1
  unfold dec1 ent20
  simp only [Int.toNat_natCast]
  have e1 : (be k 8 ++ be c 4 ++ be o 4 ++ be s 4 ++ r).take 8 = be k 8 := by
    rw [List.append_assoc, List.append_assoc, List.append_assoc]; exact List.take_left' (be_length _ _)
  have d1 : (be k 8 ++ be c 4 ++ be o 4 ++ be s 4 ++ r).drop 8 = be c 4 ++ (be o 4 ++ (be s 4 ++ r)) := by
    rw [List.append_assoc, List.append_assoc, List.append_assoc]; exact List.drop_left' (be_length _ _)
  have d2 : (be k 8 ++ be c 4 ++ be o 4 ++ be s 4 ++ r).drop 12 = be o 4 ++ (be s 4 ++ r) := by
    rw [show (12 : Nat) = 8 + 4 from rfl, ← List.drop_drop, d1]; exact List.drop_left' (be_length _ _)
  have d3 : (be k 8 ++ be c 4 ++ be o 4 ++ be s 4 ++ r).drop 16 = be s 4 ++ r := by
    rw [show (16 : Nat) = 12 + 4 from rfl, ← List.drop_drop, d2]; exact List.drop_left' (be_length _ _)
  rw [e1, d1, d2, d3, List.take_left' (be_length _ _), List.take_left' (be_length _ _), List.take_left' (be_length _ _)]
  rw [val_be 8 k (by decide) (by omega), val_be 4 c (by decide) (by omega), val_be 4 o (by decide) (by omega), val_be 4 s (by decide) (by omega)]
theorem decF_enc : ∀ (l : List It) (n : Nat) (acc : List It), l.length ≤ n → (∀ x ∈ l, Fits x) → decF n (encB l) acc = (0, acc ++ l)
  | [], n, acc, _, _ => by rw [decF_nil n _ acc rfl, List.append_nil]
  | x :: l, 0, acc, h, _ => by simp at h
  | x :: l, n + 1, acc, h, hf => by
    have hx := hf x (by simp)
    have e0 : encB (x :: l) = ent20 x ++ (ck (ent20 x) ++ encB l) := by
      show entB x ++ encB l = _
      unfold entB; rw [List.append_assoc]
    have hlen : (encB (x :: l)).length = 24 * (l.length + 1) := by rw [encB_length]; rfl
    have e1 : (encB (x :: l)).take 20 = ent20 x := by rw [e0]; exact List.take_left' (ent20_length x)
    have e2 : (encB (x :: l)).drop 20 = ck (ent20 x) ++ encB l := by rw [e0]; exact List.drop_left' (ent20_length x)
    have e3 : (encB (x :: l)).drop 24 = encB l := by rw [show (24 : Nat) = 20 + 4 from rfl, ← List.drop_drop, e2]; exact List.drop_left' rfl
    rw [decF_step n _ acc (by rw [hlen]; omega) (by rw [hlen]; omega) (by rw [e1, e2]; exact (List.take_left' rfl).symm), e3, e0, dec1_ent x hx]
    rw [decF_enc l n (acc ++ [x]) (by simpa using h) (fun y hy => hf y (by simp [hy]))]
    simp
/-- A valid list is read back. -/
theorem dec_enc {l : List It} (hv : vldB l = true) (hk : ∀ x ∈ l, x.Kwf) : dec (encB l) = (0, l) := by
  have hf : ∀ x ∈ l, Fits x := fun x hx => fits_of (hk x hx) ((vldB_iff.1 hv).2 x hx)
  have h := decF_enc l (encB l).length [] (by rw [encB_length]; omega) hf
  rw [dec_of h, if_pos rfl, List.nil_append, if_pos hv]
theorem ent20_dec1 {b : List UInt8} (h : ¬ b.length < 24) : ent20 (dec1 b) = b.take 20 := by
  unfold ent20 dec1
  simp only [Int.toNat_natCast]
  have p : ∀ i k, i + k ≤ 20 → ((b.drop i).take k).length = k := fun i k hk => by rw [List.length_take, List.length_drop]; omega
  have p0 : (b.take 8).length = 8 := by rw [List.length_take]; omega
  rw [be_val 8 _ (by decide) p0, be_val 4 _ (by decide) (p 8 4 (by decide)), be_val 4 _ (by decide) (p 12 4 (by decide)), be_val 4 _ (by decide) (p 16 4 (by decide))]
  have s : ∀ i k, b.take i ++ (b.drop i).take k = b.take (i + k) := fun i k => by rw [List.take_add]
  rw [s 8 4, s 12 4, s 16 4]
theorem decF_back : ∀ (n : Nat) (b : List UInt8) (acc l : List It), b.length ≤ n → decF n b acc = (0, l) → ∃ y, l = acc ++ y ∧ encB y = b ∧ ∀ x ∈ y, x.Kwf
  | 0, b, acc, l, h, e => by
    have : b = [] := List.length_eq_zero_iff.1 (by omega)
    subst this
    injection e with _ e
    exact ⟨[], by rw [List.append_nil]; exact e.symm, rfl, fun _ h => by cases h⟩
  | n + 1, b, acc, l, h, e => by
    by_cases h0 : b.length = 0
    · have : b = [] := List.length_eq_zero_iff.1 h0
      subst this
      rw [decF_nil _ _ _ rfl] at e
      injection e with _ e
      exact ⟨[], by rw [List.append_nil]; exact e.symm, rfl, fun _ h => by cases h⟩
    · by_cases h1 : b.length < 24
      · rw [decF_short n b acc h0 h1] at e
        injection e with e; omega
      · by_cases h2 : ck (b.take 20) = (b.drop 20).take 4
        · rw [decF_step n b acc h0 h1 h2] at e
          obtain ⟨y, e1, e2, e3⟩ := decF_back n (b.drop 24) (acc ++ [dec1 b]) l (by rw [List.length_drop]; omega) e
          refine ⟨dec1 b :: y, by rw [e1]; simp, ?_, fun x hx => ?_⟩
          · show entB (dec1 b) ++ encB y = b
            unfold entB
            rw [ent20_dec1 h1, h2, e2, ← List.take_add, List.take_append_drop]
          · rcases List.mem_cons.1 hx with rfl | hx
            · refine ⟨?_, ?_, ?_, ?_⟩
              · exact Int.natCast_nonneg _
              · have := val_lt (b.take 8); show (val (b.take 8) : Int) < _; omega
              · exact Int.natCast_nonneg _
              · have := val4_lt (l := (b.drop 8).take 4) (by rw [List.length_take]; omega); show (val ((b.drop 8).take 4) : Int) < _; omega
            · exact e3 x hx
        · rw [decF_check n b acc h0 h1 h2] at e
          injection e with e; omega
/-- What is accepted is what is written. -/
theorem enc_dec {b : List UInt8} (h : (dec b).1 = 0) : encB (dec b).2 = b ∧ vldB (dec b).2 = true ∧ ∀ x ∈ (dec b).2, x.Kwf := by
  obtain ⟨r, l, e⟩ : ∃ r l, decF b.length b [] = (r, l) := ⟨_, _, rfl⟩
  rw [dec_of e] at h ⊢
  by_cases h0 : r = 0
  · subst h0
    rw [if_pos rfl] at h ⊢
    cases hv : vldB l
    · rw [hv] at h; simp at h
    · obtain ⟨y, e1, e2, e3⟩ := decF_back _ _ _ _ (Nat.le_refl _) e
      rw [List.nil_append] at e1
      subst e1
      simp only [if_true]
      exact ⟨e2, hv, e3⟩
  · rw [if_neg h0] at h
    exact absurd h h0
end Go.Proofs.YtenkeodfijladaaGreat

namespace Go.Proofs.YtenkeodfijladaaGreat

structure Nd where
  key : Nat
  ck : Nat
  del : Bool
  data : List UInt8
  deriving DecidableEq
def nd0 : Nd := ⟨0, 0, false, []⟩
instance : Inhabited Nd := ⟨nd0⟩
/-- The numbers fit. -/
def Nd.Wf (x : Nd) : Prop := x.key < 18446744073709551616 ∧ x.ck < 4294967296
def Nd.ok (x : Nd) : Prop := x.data.length ≤ 4096 ∧ (x.del = true → x.data = [])
/-- The length of the record of n bytes of data. -/
def nsz (n : Nat) : Nat := (31 + n) / 8 * 8
theorem nsz_bounds (n : Nat) : 24 + n ≤ nsz n ∧ nsz n < 32 + n ∧ nsz n % 8 = 0 := by unfold nsz; omega
def nlen (b : List UInt8) : Nat := val ((b.drop 16).take 4)
/-- The form of a header. -/
def hform (b : List UInt8) : Prop := bat b 0 = 78 ∧ bat b 1 = 165 ∧ (bat b 2).toNat ≤ 1 ∧ bat b 3 = 0 ∧ nlen b ≤ 4096 ∧ (bat b 2 = 1 → nlen b = 0)
instance (b : List UInt8) : Decidable (hform b) := by unfold hform; exact inferInstance
def npad (b : List UInt8) : List UInt8 := (b.drop (24 + nlen b)).take (nsz (nlen b) - (24 + nlen b))
/-- The record is read. -/
structure NOk (b : List UInt8) : Prop where
  long : 20 ≤ b.length
  form : hform b
  whole : nsz (nlen b) ≤ b.length
  sum : ck (b.take (20 + nlen b)) = (b.drop (20 + nlen b)).take 4
  pad : (npad b).all (· == 0) = true
end Go.Proofs.YtenkeodfijladaaGreat

namespace Go.Proofs.YtenkeodfijladaaGreat
open Go.RowKit

/-- What Size answers for a number of bytes. -/
def szN (n : Nat) : Nat := if n ≤ 4096 then nsz n else 0
theorem szN_of {n : Nat} (h : n ≤ 4096) : szN n = nsz n := by unfold szN; rw [if_pos h]
theorem szN_le (n : Nat) : szN n ≤ 4127 := by
  unfold szN
  split
  · have := nsz_bounds n; omega
  · omega
theorem nsize_any (n : Nat) (w : World) (h : n ≤ 1000000) : Calls Tryz.prog 77 #[.int .i64 (n : Int)] w fun e w' => e = .returned (.int .i64 ((szN n : Nat) : Int)) ∧ w = w' := by
  by_cases hn : n ≤ 4096
  · have HS := Lib.hid (show ((szN n : Nat) : Int) = (20 + (n : Int) + 4 + 8 - 1) / 8 * 8 by unfold szN nsz; rw [if_pos hn]; omega)
    have hd : decide ((4096 : Int) < (n : Int)) = false := by simp; omega
    have hd2 : decide ((n : Int) < 0) = false := by simp
    go_enter Tryz.func77, Tryz.ntmps77
    go_wp2_with fail
    go_ret
    exact ⟨ret_int (by rw [HS.out]), rfl⟩
  · have HS := Lib.hid (show szN n = 0 by unfold szN; rw [if_neg hn])
    have hd : decide ((4096 : Int) < (n : Int)) = true := by simp; omega
    have hd2 : decide ((n : Int) < 0) = false := by simp
    go_enter Tryz.func77, Tryz.ntmps77
    go_wp2_with fail
    go_ret
    exact ⟨ret_int (by rw [HS.out]; rfl), rfl⟩
theorem rsize_any (n : Nat) (w : World) (h : n ≤ 1000000) : Calls Tryz.prog 38 #[.int .i64 (n : Int)] w fun e w' => e = .returned (.int .i64 ((szN n : Nat) : Int)) ∧ w = w' := by
  by_cases hn : n ≤ 4096
  · have HS := Lib.hid (show ((szN n : Nat) : Int) = (20 + (n : Int) + 4 + 8 - 1) / 8 * 8 by unfold szN nsz; rw [if_pos hn]; omega)
    have hd : decide ((4096 : Int) < (n : Int)) = false := by simp; omega
    have hd2 : decide ((n : Int) < 0) = false := by simp
    go_enter Tryz.func38, Tryz.ntmps38
    go_wp2_with fail
    go_ret
    exact ⟨ret_int (by rw [HS.out]; omega), rfl⟩
  · have HS := Lib.hid (show szN n = 0 by unfold szN; rw [if_neg hn])
    have hd : decide ((4096 : Int) < (n : Int)) = true := by simp; omega
    have hd2 : decide ((n : Int) < 0) = false := by simp
    go_enter Tryz.func38, Tryz.ntmps38
    go_wp2_with fail
    go_ret
    exact ⟨ret_int (by rw [HS.out]; rfl), rfl⟩
/-- The bytes of a number, the least significant one first. -/
theorem le4_at {c j : Nat} (h : j < 4) : bat (le4 c) j = UInt8.ofNat (c / 2 ^ (8 * j)) := by
  match j, h with
  | 0, _ => show UInt8.ofNat c = _; rw [Nat.mul_zero, Nat.pow_zero, Nat.div_one]
  | 1, _ => rfl
  | 2, _ => rfl
  | 3, _ => rfl
/-- A row of the call's own does not lie in a block of another type. -/
theorem own_not_at {w : World} {B : Nat} {e e' : TypeId} {sz n p : Nat} {v : Value} {xs : List Value} {cs : Array Value} (h : w.ownsRow B e sz v n xs) (hp : w.heap[p]? = some (.cells cs e' (0, 0))) (hne : e ≠ e') : v.ownBlock ≠ some p := fun e1 => by
  obtain ⟨c, fz, h1⟩ := Lib.ownsRow_kind h p e1
  rw [h1] at hp
  injection hp with hp
  injection hp with _ hp
  exact hne hp
theorem own_set_ne {w : World} {B : Nat} {e : TypeId} {sz n : Nat} {v : Value} {xs : List Value} (h : w.ownsRow B e sz v n xs) {p : Addr} (hne : v.ownBlock ≠ some p.block) (u : Value) : (w.setCell p u).ownsRow B e sz v n xs := by
  refine ⟨h.1, ?_⟩
  rcases h.2 with h0 | ⟨g, cap, cur, rfl, hb, hg, rest⟩
  · exact .inl h0
  · refine .inr ⟨g, cap, cur, rfl, hb, ?_, rest⟩
    rw [Below.heap_setCell w p u g (fun e => hne (by rw [← e]; rfl))]; exact hg
set_option maxRecDepth 100000 in
set_option maxHeartbeats 1000000 in
theorem little_any (p c B : Nat) (w : World) (hp : B ≤ p) (hpt : w.heap[p]? = some (.cells #[.slice none 0 0] 229 (0, 0))) (hB : B ≤ w.heap.size) (_hc : c < 4294967296) :
    Calls Tryz.prog 139 #[.pointer (some ⟨p, 0, none⟩), .int .u64 (c : Int), .int .i64 4] w fun e w' => e = .returned (.tuple #[]) ∧ ∃ v, w'.cell? ⟨p, 0, none⟩ = some v ∧ OwnB w' B v (le4 c) ∧ Below B w w' := by
  have HS := Lib.hid (show ∀ k, k < (le4 c).length → _ from fun k => btake_snoc (l := le4 c) (j := k))
  have HA := Lib.hid (show ∀ k, k < 4 → _ from fun k => le4_at (c := c) (j := k))
  have HL := Lib.hid (show (le4 c).length = 4 from rfl)
  generalize le4 c = l at *
  have HP := Lib.hid hpt
  clear hpt
  go_enter Tryz.func139, Tryz.ntmps139
  go_wp2_with fail
  go_loopw [8] (fun iv wr => ∃ (k : Nat) (v : Value), iv = .int .i64 (k : Int) ∧ k ≤ 4 ∧ wr.heap[p]? = some (.cells #[v] 229 (0, 0)) ∧ wr.ownsRow B 5 1 v k ((l.take k).map byteV) ∧ Below B w wr) (fun iv _ => 4 - (intOf iv).toNat)
  case atStart => exact ⟨0, .slice none 0 0, by go_num, by omega, HP.out, World.ownsRow_nil _ _ _ _, Below.refl _ _⟩
  case round =>
    obtain ⟨k, v, rfl, hk, hpv, hown, hb⟩ := hrel
    have HPv := Lib.hid hpv
    have HO := Lib.hid hown
    have Hb := Lib.hid hb
    have hB2 : B ≤ wr.heap.size := Nat.le_trans hB hb.size
    have c0 := cell_of_one hpv
    have f0 := free_of_one hpv
    clear hpv hown hb
    by_cases hlt : k < 4
    · have HSk := Lib.hid (HS.out k (by rw [HL.out]; exact hlt))
      have hbyte : IntKind.u8.wrap ((c : Int) / 2 ^ (8 * k)) = ((bat l k).toNat : Int) := by rw [HA.out k hlt, ← byte_be c _]; simp [IntKind.wrap, IntKind.signed, IntKind.bits]
      generalize bat l k = x at *
      have j1 : IntKind.i64.wrap (8 * (k : Int)) = 8 * (k : Int) := IntWalk.i64_in _ (by omega)
      have j2 : (0 : Int) ≤ 8 * (k : Int) := by omega
      have j3 : (8 * (k : Int)).toNat = 8 * k := by omega
      have j4 : 8 * (k : Int) < 64 := by omega
      have hpw : p < wr.heap.size := World.block_lt_of_cell? _ _ c0
      have HCP := Lib.hid (fun o W (h : ((wr.alloc o).drew).grownBy W v.ownBlock) => show W.heap[p]? = some (.cells #[v] 229 (0, 0)) from by
        rw [h.block p (by simp; omega) (fun e => own_not_at HO.out HPv.out (by decide) e.symm)]
        exact (Below.heap_alloc wr o p hpw).trans HPv.out)
      go_wp2_with fail
      go_region_law ((refine step_app (by rfl) (.tmp 15) (.tmp 21) 70 (by rfl) elemB B (by rfl) ((HO.out.alloc _).drew) (by rfl) (Rd.drew (rd_byte wr x _)) (bytes_one [x]) (by unfold maxLen; omega) (by omega) (by simp; omega) ?_; intro v2 w2 hown2 hgr2 hv2; clear hv2; obtain ⟨oa2, oc2, hv2, _, _, _⟩ := own_form hown2; subst hv2; have hp2 := HCP.out _ _ hgr2; have c2 := cell_of_one hp2; have f2 := free_of_one hp2))
      all_goals
        have HP3 := one_setCell (u := .slice oa2 (k + 1) oc2) hp2
        have HO3 := own_set_ne hown2 (p := ⟨p, 0, none⟩) (own_not_at hown2 hp2 (by decide)) (.slice oa2 (k + 1) oc2)
        have HB3 := (own_below (below_drew (Hb.out.alloc hB2 _)) ((HO.out.alloc _).drew) (by simp; omega) hgr2).setCell (p := ⟨p, 0, none⟩) hp (.slice oa2 (k + 1) oc2)
        clear hgr2 hp2 c2 f2 hbyte j1 j2 j3 j4 hown2
        go_wp2_with fail
        exact ⟨⟨k + 1, _, by go_num, by omega, HP3, by rw [HSk.out, List.map_append]; exact HO3, HB3⟩, by simp [intOf]; omega⟩
    · obtain rfl : k = 4 := by omega
      go_wp2_with fail
      go_end0
      exact ⟨rfl, v, c0, by unfold OwnB; rw [HL.out]; rw [List.take_of_length_le (by rw [HL.out]; exact Nat.le_refl _)] at HO; exact HO.out, Hb.out⟩
end Go.Proofs.YtenkeodfijladaaGreat
