/- Several texts in one, each over the last: The checksum CRC-32C, in plain numbers. No program here. Numbers as bytes, the most significant one first, in plain Lean. No program here. The walks over the checksum, the program's and the reference's. The bytes of a list of items, in plain Lean. No program here. The walks over numbers as bytes: big, number, sum and the reference's Number, Value, Check. Reading the bytes of a list of items, in plain Lean. No program here. Bytes read back, in plain Lean. No program here. The record of a needle, in plain Lean: written, read, torn. No program here. The walks over needle's small functions. -/
import Derived.Test.YtenkeodfijladaaGreatDoorIt
import Derived.Laws.BitsAllLaws
import Derived.Test.YtenkeodfijladaaGreatDoorPi
import Derived.Laws.OwnMore
import Derived.Deep.RegionWith
import Derived.Deep.RegionLaw
import Derived.Lib.OwnKind
import Derived.OneCell
namespace Go.Proofs.YtenkeodfijladaaGreatDoor.Crc

def poly : Nat := 2197175160
def st (r : Nat) : Nat := if r % 2 = 1 then (r / 2) ^^^ poly else r / 2
theorem st_lt {r : Nat} (h : r < 4294967296) : st r < 4294967296 := by
  unfold st
  split
  · exact Nat.xor_lt_two_pow (n := 32) (by omega) (by unfold poly; omega)
  · omega
def stk : Nat → Nat → Nat
  | 0, r => r
  | k + 1, r => st (stk k r)
theorem stk_lt {r : Nat} (h : r < 4294967296) : ∀ k, stk k r < 4294967296
  | 0 => h
  | k + 1 => st_lt (stk_lt h k)
def add (r : Nat) (x : UInt8) : Nat := stk 8 (r ^^^ x.toNat)
theorem xor_lt {r s : Nat} (h : r < 4294967296) (hs : s < 4294967296) : r ^^^ s < 4294967296 := Nat.xor_lt_two_pow (n := 32) h hs
theorem add_lt {r : Nat} (h : r < 4294967296) (x : UInt8) : add r x < 4294967296 := stk_lt (xor_lt h (by have := x.toNat_lt; omega)) 8
def ext (r : Nat) (l : List UInt8) : Nat := l.foldl add r
theorem ext_lt : ∀ (l : List UInt8) {r : Nat}, r < 4294967296 → ext r l < 4294967296
  | [], _, h => h
  | x :: l, _, h => ext_lt l (add_lt h x)
theorem ext_snoc (r : Nat) (l : List UInt8) (x : UInt8) : ext r (l ++ [x]) = add (ext r l) x := by simp [ext]
/-- The checksum. -/
def sum (l : List UInt8) : Nat := 4294967295 - ext 4294967295 l
theorem sum_lt (l : List UInt8) : sum l < 4294967296 := by unfold sum; omega
end Go.Proofs.YtenkeodfijladaaGreatDoor.Crc

namespace Go.Proofs.YtenkeodfijladaaGreatDoor

/-- The byte at a place; 0 where there is none. -/
def bat (l : List UInt8) (j : Nat) : UInt8 := l.getD j 0
theorem btake_snoc {l : List UInt8} {j : Nat} (h : j < l.length) : l.take (j + 1) = l.take j ++ [bat l j] := by
  rw [List.take_succ_eq_append_getElem h]
  congr
  unfold bat
  rw [List.getD_eq_getElem?_getD, List.getElem?_eq_getElem h]; rfl
/-- The last n bytes of v. -/
def be (v n : Nat) : List UInt8 := (List.range n).map fun j => UInt8.ofNat (v / 2 ^ (8 * (n - 1 - j)))
theorem be_length (v n : Nat) : (be v n).length = n := by simp [be]
theorem be_at {v n j : Nat} (h : j < n) : bat (be v n) j = UInt8.ofNat (v / 2 ^ (8 * (n - 1 - j))) := by
  unfold bat be
  rw [List.getD_eq_getElem?_getD, List.getElem?_map, List.getElem?_range h]; rfl
/-- The number that bytes are, in 64 bits. -/
def val (l : List UInt8) : Nat := l.foldl (fun n x => (n * 256 + x.toNat) % 18446744073709551616) 0
theorem val_snoc (l : List UInt8) (x : UInt8) : val (l ++ [x]) = (val l * 256 + x.toNat) % 18446744073709551616 := by simp [val]
theorem val_lt (l : List UInt8) : val l < 18446744073709551616 := by
  rcases List.eq_nil_or_concat l with rfl | ⟨r, x, rfl⟩
  · simp [val]
  · rw [List.concat_eq_append, val_snoc]; omega
theorem val_or (v : Nat) (x : UInt8) : (v * 256 % 18446744073709551616) ||| x.toNat = (v * 256 + x.toNat) % 18446744073709551616 := by
  have hx := x.toNat_lt
  have e : v * 256 % 18446744073709551616 = 2 ^ 8 * (v % 72057594037927936) := by omega
  rw [e, ← Nat.two_pow_add_eq_or_of_lt (i := 8) (by omega)]
  omega
/-- Four bytes of a number, the least significant one first. -/
def le4 (c : Nat) : List UInt8 := [UInt8.ofNat c, UInt8.ofNat (c / 2 ^ 8), UInt8.ofNat (c / 2 ^ 16), UInt8.ofNat (c / 2 ^ 24)]
end Go.Proofs.YtenkeodfijladaaGreatDoor

namespace Go.Proofs.YtenkeodfijladaaGreatDoor
open Go.RowKit

theorem low_bit (r : Nat) (h : r < 4294967296) : bits .and .u32 (r : Int) 1 = ((r % 2 : Nat) : Int) := by
  have := u32_and_nat r 1 h (by decide)
  rw [show ((1 : Nat) : Int) = 1 from rfl] at this
  rw [this, Nat.and_one_is_mod]
theorem xor_poly (r : Nat) (h : r < 4294967296) : bits .xor .u32 (r : Int) 2197175160 = ((r ^^^ Crc.poly : Nat) : Int) := by
  have := u32_xor_nat r 2197175160 h (by decide)
  rwa [show ((2197175160 : Nat) : Int) = 2197175160 from rfl] at this
theorem RdB.shape0 {w : World} {v : Value} {l : List UInt8} (h : RdB w v l) : ∃ a cap, v = .slice a l.length cap ∧ l.length ≤ cap ∧ cap ≤ maxLen := by
  obtain ⟨a, cap, h1, h2, h3, _⟩ := RdL.shape h 0
  exact ⟨a, cap, h1, h2, h3⟩
theorem RdB.at {w : World} {a : Option Addr} {n cap : Nat} {l : List UInt8} (h : RdB w (.slice a n cap) l) {j : Nat} (hj : j < n) : ∃ b off, a = some ⟨b, off, none⟩ ∧ w.cell? ⟨b, off + j, none⟩ = some (.int .u8 ((bat l j).toNat : Int)) := by
  obtain ⟨a', cap', e, h2, h3, _, h5⟩ := RdL.shape h 0
  injection e with e1 e2 e3
  subst e1 e2 e3
  obtain ⟨b, off, e, hc⟩ := h5 (by omega)
  exact ⟨b, off, e, hc j hj⟩
theorem xor_byte (r : Nat) (x : UInt8) (h : r < 4294967296) : bits .xor .u32 (r : Int) (x.toNat : Int) = ((r ^^^ x.toNat : Nat) : Int) := u32_xor_nat r x.toNat h (by have := x.toNat_lt; omega)
theorem not_nat (c : Nat) (h : c < 4294967296) : 4294967295 ^^^ c = 4294967295 - c := by
  have h1 : (BitVec.allOnes 32 ^^^ BitVec.ofNat 32 c).toNat = (~~~(BitVec.ofNat 32 c)).toNat := by rw [BitVec.allOnes_xor]
  rw [BitVec.toNat_xor, BitVec.toNat_not, BitVec.toNat_ofNat, Nat.mod_eq_of_lt (show c < 2 ^ 32 by omega), BitVec.toNat_allOnes] at h1
  exact h1
theorem not_u32 (c : Nat) (h : c < 4294967296) : bits .xor .u32 IntKind.u32.max (c : Int) = ((4294967295 - c : Nat) : Int) := by
  have := u32_xor_nat 4294967295 c (by decide) h
  rw [not_nat c h] at this
  exact this
end Go.Proofs.YtenkeodfijladaaGreatDoor

namespace Go.Proofs.YtenkeodfijladaaGreatDoor

/-- The checksum of bytes, as bytes. -/
def ck (l : List UInt8) : List UInt8 := le4 (Crc.sum l)
/-- The key and the cookie fit. -/
def It.Kwf (x : It) : Prop := 0 ≤ x.key ∧ x.key < 18446744073709551616 ∧ 0 ≤ x.ck ∧ x.ck < 4294967296
/-- The first twenty bytes of an entry. -/
def ent20 (x : It) : List UInt8 := be x.key.toNat 8 ++ be x.ck.toNat 4 ++ be x.off.toNat 4 ++ be x.size.toNat 4
def entB (x : It) : List UInt8 := ent20 x ++ ck (ent20 x)
/-- The bytes of a list. -/
def encB (l : List It) : List UInt8 := l.flatMap entB
theorem ent20_length (x : It) : (ent20 x).length = 20 := by simp [ent20, be_length]
theorem entB_length (x : It) : (entB x).length = 24 := by simp [entB, ent20_length, ck, le4]
theorem encB_length : ∀ l : List It, (encB l).length = 24 * l.length
  | [] => rfl
  | x :: l => by
    have := encB_length l
    unfold encB at *
    rw [List.flatMap_cons, List.length_append, entB_length, this, List.length_cons]; omega
theorem encB_snoc (l : List It) (x : It) : encB (l ++ [x]) = encB l ++ entB x := by simp [encB]
end Go.Proofs.YtenkeodfijladaaGreatDoor

namespace Go.Proofs.YtenkeodfijladaaGreatDoor
open Go.RowKit

theorem infoB : (Tryz.prog.info? 5).map (fun i => (i.zero, i.size, i.bytes)) = some (some (.int .u8 0), 1, 1) := by kernel_rfl
theorem elemB : ElemT Tryz.prog 34 5 1 1 := by
  obtain ⟨i, h1, h2, h3, h4⟩ := info_parts infoB
  exact ⟨Tryz.underlying34, by decide, i, _, h1, h2, h3, h4, rfl⟩
/-- v is a slice of bytes of the call's own, in a block from base on. -/
abbrev OwnB (w : World) (base : Nat) (v : Value) (l : List UInt8) : Prop := w.ownsRow base 5 1 v l.length (l.map byteV)
theorem ownB_of {w : World} {base n : Nat} {v : Value} {l : List UInt8} {xs : List Value} (h : w.ownsRow base 5 1 v n xs) (e : xs = l.map byteV) : OwnB w base v l := by
  subst e
  have : l.length = n := by have := h.1; rw [List.length_map] at this; omega
  unfold OwnB; rw [this]; exact h
theorem OwnB.rd {w : World} {base : Nat} {v : Value} {l : List UInt8} (h : OwnB w base v l) : RdB w v l := own_rdl h
theorem rd_byte (w : World) (x : UInt8) (e : TypeId) : Rd (w.alloc (.cells #[.int .u8 (x.toNat : Int)] e)) 1 (.slice (some ⟨w.heap.size, 0, none⟩) 1 1) 1 ([x].map byteV) := Rd.new w 1 _ e 1 rfl (by decide)
theorem byte_be (v m : Nat) : ((v : Int) / 2 ^ m % 256) = ((UInt8.ofNat (v / 2 ^ m)).toNat : Int) := by
  rw [UInt8.toNat_ofNat', Int.natCast_emod, Int.natCast_ediv, Int.natCast_pow]; rfl
theorem val_bits (q : Nat) (x : UInt8) : bits .or .u64 (IntKind.u64.wrap ((q : Int) * 256)) (x.toNat : Int) = (((q * 256 + x.toNat) % 18446744073709551616 : Nat) : Int) := by
  have b3 := x.toNat_lt
  rw [← val_or, IntKind.wrap_u64]
  exact u64_or_nat (q * 256 % 18446744073709551616) x.toNat (by omega) (by omega)
theorem le4_len (c : Nat) : (le4 c).length = 4 := rfl
theorem le4_cells (c : Nat) (h : c < 4294967296) : (#[Value.int .u8 ((c : Int) % 256), .int .u8 ((c : Int) / 256 % 256), .int .u8 ((c : Int) / 65536 % 256), .int .u8 ((c : Int) / 16777216)] : Array Value) = ((le4 c).map byteV).toArray := by
  have e : ∀ m : Nat, ((UInt8.ofNat m).toNat : Int) = (m : Int) % 256 := fun m => by rw [UInt8.toNat_ofNat']; rfl
  show _ = (#[Value.int .u8 ((UInt8.ofNat c).toNat : Int), .int .u8 ((UInt8.ofNat (c / 2 ^ 8)).toNat : Int), .int .u8 ((UInt8.ofNat (c / 2 ^ 16)).toNat : Int), .int .u8 ((UInt8.ofNat (c / 2 ^ 24)).toNat : Int)] : Array Value)
  rw [e, e, e, e]
  have e4 : (c : Int) / 16777216 = ((c / 2 ^ 24 : Nat) : Int) % 256 := by omega
  rw [e4]
  rfl
theorem le4_own (w : World) (c : Nat) (h : c < 4294967296) : OwnB (w.alloc (.cells #[.int .u8 ((c : Int) % 256), .int .u8 ((c : Int) / 256 % 256), .int .u8 ((c : Int) / 65536 % 256), .int .u8 ((c : Int) / 16777216)] 5)) w.heap.size (.slice (some ⟨w.heap.size, 0, none⟩) 4 4) (le4 c) := by
  rw [le4_cells c h]
  exact World.ownsRow_lit w _ 4 (Nat.le_refl _) (by decide) rfl
end Go.Proofs.YtenkeodfijladaaGreatDoor

namespace Go.Proofs.YtenkeodfijladaaGreatDoor

/-- An entry's item. -/
def dec1 (b : List UInt8) : It := ⟨(val (b.take 8) : Int), (val ((b.drop 8).take 4) : Int), (val ((b.drop 12).take 4) : Int), (val ((b.drop 16).take 4) : Int)⟩
/-- The items behind acc, or the error's number. -/
def decF : Nat → List UInt8 → List It → Int × List It
  | 0, _, acc => (0, acc)
  | n + 1, b, acc => if b.length = 0 then (0, acc) else if b.length < 24 then (4, []) else if ck (b.take 20) = (b.drop 20).take 4 then decF n (b.drop 24) (acc ++ [dec1 b]) else (5, [])
theorem decF_nil (n : Nat) (b : List UInt8) (acc : List It) (h : b.length = 0) : decF n b acc = (0, acc) := by
  cases n with
  | zero => rfl
  | succ n => unfold decF; rw [if_pos h]
theorem decF_short (n : Nat) (b : List UInt8) (acc : List It) (h0 : b.length ≠ 0) (h : b.length < 24) : decF (n + 1) b acc = (4, []) := by
  unfold decF; rw [if_neg h0, if_pos h]
theorem decF_check (n : Nat) (b : List UInt8) (acc : List It) (h0 : b.length ≠ 0) (h : ¬ b.length < 24) (h2 : ck (b.take 20) ≠ (b.drop 20).take 4) : decF (n + 1) b acc = (5, []) := by
  unfold decF; rw [if_neg h0, if_neg h, if_neg h2]
theorem decF_step (n : Nat) (b : List UInt8) (acc : List It) (h0 : b.length ≠ 0) (h : ¬ b.length < 24) (h2 : ck (b.take 20) = (b.drop 20).take 4) : decF (n + 1) b acc = decF n (b.drop 24) (acc ++ [dec1 b]) := by
  conv => lhs; unfold decF
  rw [if_neg h0, if_neg h, if_pos h2]
/-- The documented list, or the error's number. -/
def dec (b : List UInt8) : Int × List It := if (decF b.length b []).1 = 0 then (if vldB (decF b.length b []).2 then (0, (decF b.length b []).2) else (3, [])) else ((decF b.length b []).1, [])
theorem dec_of {b : List UInt8} {r : Int} {l : List It} (h : decF b.length b [] = (r, l)) : dec b = if r = 0 then (if vldB l then (0, l) else (3, [])) else (r, []) := by
  unfold dec; rw [h]
theorem val4_lt {l : List UInt8} (h : l.length ≤ 4) : val l < 4294967296 := by
  match l, h with
  | [], _ => simp [val]
  | [a], _ => simp only [val, List.foldl_cons, List.foldl_nil]; have := a.toNat_lt; omega
  | [a, b], _ => simp only [val, List.foldl_cons, List.foldl_nil]; have := a.toNat_lt; have := b.toNat_lt; omega
  | [a, b, c], _ => simp only [val, List.foldl_cons, List.foldl_nil]; have := a.toNat_lt; have := b.toNat_lt; have := c.toNat_lt; omega
  | [a, b, c, d], _ => simp only [val, List.foldl_cons, List.foldl_nil]; have := a.toNat_lt; have := b.toNat_lt; have := c.toNat_lt; have := d.toNat_lt; omega
end Go.Proofs.YtenkeodfijladaaGreatDoor

namespace Go.Proofs.YtenkeodfijladaaGreatDoor

theorem be_succ (v n : Nat) : be v (n + 1) = be (v / 256) n ++ [UInt8.ofNat v] := by
  unfold be
  rw [List.range_succ, List.map_append]
  congr 1
  · refine List.map_congr_left fun j hj => ?_
    have hj := List.mem_range.1 hj
    rw [show n + 1 - 1 - j = (n - 1 - j) + 1 by omega, show 8 * ((n - 1 - j) + 1) = 8 + 8 * (n - 1 - j) by omega, Nat.pow_add, ← Nat.div_div_eq_div_mul]
  · simp
theorem val_be : ∀ (n v : Nat), n ≤ 8 → v < 2 ^ (8 * n) → val (be v n) = v
  | 0, v, _, h => by
    have : v = 0 := by simpa using h
    subst this; rfl
  | n + 1, v, hn, h => by
    have h2 : v / 256 < 2 ^ (8 * n) := by
      rw [show 8 * (n + 1) = 8 * n + 8 by omega, Nat.pow_add] at h
      exact Nat.div_lt_of_lt_mul (by rw [Nat.mul_comm]; exact h)
    have h3 : (2 : Nat) ^ (8 * (n + 1)) ≤ 2 ^ 64 := Nat.pow_le_pow_right (by decide) (by omega)
    rw [be_succ, val_snoc, val_be n (v / 256) (by omega) h2, UInt8.toNat_ofNat']
    omega
theorem val_bound (l : List UInt8) : ∀ n, n ≤ 8 → l.length = n → val l < 2 ^ (8 * n) := by
  intro n
  induction n generalizing l with
  | zero => intro _ h; have : l = [] := List.length_eq_zero_iff.1 h; subst this; simp [val]
  | succ n ih =>
    intro hn h
    rcases List.eq_nil_or_concat l with rfl | ⟨r, x, rfl⟩
    · simp at h
    · rw [List.concat_eq_append] at h ⊢
      have hr := ih r (by omega) (by simpa using h)
      have hx := x.toNat_lt
      rw [val_snoc]
      have e : (2 : Nat) ^ (8 * (n + 1)) = 2 ^ (8 * n) * 256 := by rw [show 8 * (n + 1) = 8 * n + 8 by omega, Nat.pow_add]
      have := Nat.mod_le (val r * 256 + x.toNat) 18446744073709551616
      omega
theorem be_val : ∀ (n : Nat) (l : List UInt8), n ≤ 8 → l.length = n → be (val l) n = l
  | 0, l, _, h => by
    have : l = [] := List.length_eq_zero_iff.1 h
    subst this; rfl
  | n + 1, l, hn, h => by
    rcases List.eq_nil_or_concat l with rfl | ⟨r, x, rfl⟩
    · simp at h
    · rw [List.concat_eq_append] at h ⊢
      have hl : r.length = n := by simpa using h
      have hb := val_bound r n (by omega) hl
      have h3 : (2 : Nat) ^ (8 * n) ≤ 2 ^ 56 := Nat.pow_le_pow_right (by decide) (by omega)
      have hx := x.toNat_lt
      have hv : val (r ++ [x]) = val r * 256 + x.toNat := by rw [val_snoc]; omega
      rw [be_succ, hv, show (val r * 256 + x.toNat) / 256 = val r by omega, be_val n r (by omega) hl]
      congr 2
      apply UInt8.toNat_inj.1
      rw [UInt8.toNat_ofNat']; omega
/-- An item that can be written: its numbers fit their places. -/
def Fits (x : It) : Prop := 0 ≤ x.key ∧ x.key < 18446744073709551616 ∧ 0 ≤ x.ck ∧ x.ck < 4294967296 ∧ 0 ≤ x.off ∧ x.off < 4294967296 ∧ 0 ≤ x.size ∧ x.size < 4294967296
theorem fits_of {x : It} (h1 : x.Kwf) (h2 : okP x) : Fits x := by
  obtain ⟨a, b, c, d⟩ := h1
  obtain ⟨e, f, _, g, i⟩ := h2
  exact ⟨a, b, c, d, by omega, by omega, g, by omega⟩
theorem dec1_ent (x : It) (h : Fits x) (r : List UInt8) : dec1 (ent20 x ++ r) = x := by
  obtain ⟨k1, k2, c1, c2, o1, o2, s1, s2⟩ := h
  obtain ⟨k, c, o, s⟩ := x
  simp only [] at k1 k2 c1 c2 o1 o2 s1 s2
  obtain ⟨k, rfl⟩ := Int.eq_ofNat_of_zero_le k1
  obtain ⟨c, rfl⟩ := Int.eq_ofNat_of_zero_le c1
  obtain ⟨o, rfl⟩ := Int.eq_ofNat_of_zero_le o1
  obtain ⟨s, rfl⟩ := Int.eq_ofNat_of_zero_le s1
  unfold dec1 ent20
  simp only [Int.toNat_natCast]
  have e1 : (be k 8 ++ be c 4 ++ be o 4 ++ be s 4 ++ r).take 8 = be k 8 := by
    rw [List.append_assoc, List.append_assoc, List.append_assoc]; exact List.take_left' (be_length _ _)
  have d1 : (be k 8 ++ be c 4 ++ be o 4 ++ be s 4 ++ r).drop 8 = be c 4 ++ (be o 4 ++ (be s 4 ++ r)) := by
    rw [List.append_assoc, List.append_assoc, List.append_assoc]; exact List.drop_left' (be_length _ _)
  have d2 : (be k 8 ++ be c 4 ++ be o 4 ++ be s 4 ++ r).drop 12 = be o 4 ++ (be s 4 ++ r) := by
    rw [show (12 : Nat) = 8 + 4 from rfl, ← List.drop_drop, d1]; exact List.drop_left' (be_length _ _)
  have d3 : (be k 8 ++ be c 4 ++ be o 4 ++ be s 4 ++ r).drop 16 = be s 4 ++ r := by
    rw [show (16 : Nat) = 12 + 4 from rfl, ← List.drop_drop, d2]; exact List.drop_left' (be_length _ _)
  rw [e1, d1, d2, d3, List.take_left' (be_length _ _), List.take_left' (be_length _ _), List.take_left' (be_length _ _)]
  rw [val_be 8 k (by decide) (by omega), val_be 4 c (by decide) (by omega), val_be 4 o (by decide) (by omega), val_be 4 s (by decide) (by omega)]
theorem decF_enc : ∀ (l : List It) (n : Nat) (acc : List It), l.length ≤ n → (∀ x ∈ l, Fits x) → decF n (encB l) acc = (0, acc ++ l)
  | [], n, acc, _, _ => by rw [decF_nil n _ acc rfl, List.append_nil]
  | x :: l, 0, acc, h, _ => by simp at h
  | x :: l, n + 1, acc, h, hf => by
    have hx := hf x (by simp)
    have e0 : encB (x :: l) = ent20 x ++ (ck (ent20 x) ++ encB l) := by
      show entB x ++ encB l = _
      unfold entB; rw [List.append_assoc]
    have hlen : (encB (x :: l)).length = 24 * (l.length + 1) := by rw [encB_length]; rfl
    have e1 : (encB (x :: l)).take 20 = ent20 x := by rw [e0]; exact List.take_left' (ent20_length x)
    have e2 : (encB (x :: l)).drop 20 = ck (ent20 x) ++ encB l := by rw [e0]; exact List.drop_left' (ent20_length x)
    have e3 : (encB (x :: l)).drop 24 = encB l := by rw [show (24 : Nat) = 20 + 4 from rfl, ← List.drop_drop, e2]; exact List.drop_left' rfl
    rw [decF_step n _ acc (by rw [hlen]; omega) (by rw [hlen]; omega) (by rw [e1, e2]; exact (List.take_left' rfl).symm), e3, e0, dec1_ent x hx]
    rw [decF_enc l n (acc ++ [x]) (by simpa using h) (fun y hy => hf y (by simp [hy]))]
    simp
/-- A valid list is read back. -/
theorem dec_enc {l : List It} (hv : vldB l = true) (hk : ∀ x ∈ l, x.Kwf) : dec (encB l) = (0, l) := by
  have hf : ∀ x ∈ l, Fits x := fun x hx => fits_of (hk x hx) ((vldB_iff.1 hv).2 x hx)
  have h := decF_enc l (encB l).length [] (by rw [encB_length]; omega) hf
  rw [dec_of h, if_pos rfl, List.nil_append, if_pos hv]
theorem ent20_dec1 {b : List UInt8} (h : ¬ b.length < 24) : ent20 (dec1 b) = b.take 20 := by
  unfold ent20 dec1
  simp only [Int.toNat_natCast]
  have p : ∀ i k, i + k ≤ 20 → ((b.drop i).take k).length = k := fun i k hk => by rw [List.length_take, List.length_drop]; omega
  have p0 : (b.take 8).length = 8 := by rw [List.length_take]; omega
  rw [be_val 8 _ (by decide) p0, be_val 4 _ (by decide) (p 8 4 (by decide)), be_val 4 _ (by decide) (p 12 4 (by decide)), be_val 4 _ (by decide) (p 16 4 (by decide))]
  have s : ∀ i k, b.take i ++ (b.drop i).take k = b.take (i + k) := fun i k => by rw [List.take_add]
  rw [s 8 4, s 12 4, s 16 4]
theorem decF_back : ∀ (n : Nat) (b : List UInt8) (acc l : List It), b.length ≤ n → decF n b acc = (0, l) → ∃ y, l = acc ++ y ∧ encB y = b ∧ ∀ x ∈ y, x.Kwf
  | 0, b, acc, l, h, e => by
    have : b = [] := List.length_eq_zero_iff.1 (by omega)
    subst this
    injection e with _ e
    exact ⟨[], by rw [List.append_nil]; exact e.symm, rfl, fun _ h => by cases h⟩
  | n + 1, b, acc, l, h, e => by
    by_cases h0 : b.length = 0
    · have : b = [] := List.length_eq_zero_iff.1 h0
      subst this
      rw [decF_nil _ _ _ rfl] at e
      injection e with _ e
      exact ⟨[], by rw [List.append_nil]; exact e.symm, rfl, fun _ h => by cases h⟩
    · by_cases h1 : b.length < 24
      · rw [decF_short n b acc h0 h1] at e
        injection e with e; omega
      · by_cases h2 : ck (b.take 20) = (b.drop 20).take 4
        · rw [decF_step n b acc h0 h1 h2] at e
          obtain ⟨y, e1, e2, e3⟩ := decF_back n (b.drop 24) (acc ++ [dec1 b]) l (by rw [List.length_drop]; omega) e
          refine ⟨dec1 b :: y, by rw [e1]; simp, ?_, fun x hx => ?_⟩
          · show entB (dec1 b) ++ encB y = b
            unfold entB
            rw [ent20_dec1 h1, h2, e2, ← List.take_add, List.take_append_drop]
          · rcases List.mem_cons.1 hx with rfl | hx
            · refine ⟨?_, ?_, ?_, ?_⟩
              · exact Int.natCast_nonneg _
              · have := val_lt (b.take 8); show (val (b.take 8) : Int) < _; omega
              · exact Int.natCast_nonneg _
              · have := val4_lt (l := (b.drop 8).take 4) (by rw [List.length_take]; omega); show (val ((b.drop 8).take 4) : Int) < _; omega
            · exact e3 x hx
        · rw [decF_check n b acc h0 h1 h2] at e
          injection e with e; omega
/-- What is accepted is what is written. -/
theorem enc_dec {b : List UInt8} (h : (dec b).1 = 0) : encB (dec b).2 = b ∧ vldB (dec b).2 = true ∧ ∀ x ∈ (dec b).2, x.Kwf := by
  obtain ⟨r, l, e⟩ : ∃ r l, decF b.length b [] = (r, l) := ⟨_, _, rfl⟩
  rw [dec_of e] at h ⊢
  by_cases h0 : r = 0
  · subst h0
    rw [if_pos rfl] at h ⊢
    cases hv : vldB l
    · rw [hv] at h; simp at h
    · obtain ⟨y, e1, e2, e3⟩ := decF_back _ _ _ _ (Nat.le_refl _) e
      rw [List.nil_append] at e1
      subst e1
      simp only [if_true]
      exact ⟨e2, hv, e3⟩
  · rw [if_neg h0] at h
    exact absurd h h0
end Go.Proofs.YtenkeodfijladaaGreatDoor

namespace Go.Proofs.YtenkeodfijladaaGreatDoor

structure Nd where
  key : Nat
  ck : Nat
  del : Bool
  data : List UInt8
  deriving DecidableEq
def nd0 : Nd := ⟨0, 0, false, []⟩
instance : Inhabited Nd := ⟨nd0⟩
/-- The numbers fit. -/
def Nd.Wf (x : Nd) : Prop := x.key < 18446744073709551616 ∧ x.ck < 4294967296
def Nd.ok (x : Nd) : Prop := x.data.length ≤ 4096 ∧ (x.del = true → x.data = [])
/-- The length of the record of n bytes of data. -/
def nsz (n : Nat) : Nat := (31 + n) / 8 * 8
theorem nsz_bounds (n : Nat) : 24 + n ≤ nsz n ∧ nsz n < 32 + n ∧ nsz n % 8 = 0 := by unfold nsz; omega
def hd20 (x : Nd) : List UInt8 := [78, 165, if x.del then 1 else 0, 0] ++ be x.ck 4 ++ be x.key 8 ++ be x.data.length 4
theorem hd20_length (x : Nd) : (hd20 x).length = 20 := by simp [hd20, be_length]
def nbody (x : Nd) : List UInt8 := hd20 x ++ x.data
theorem nbody_length (x : Nd) : (nbody x).length = 20 + x.data.length := by simp [nbody, hd20_length]
def zeros (n : Nat) : List UInt8 := List.replicate n 0
/-- The record. -/
def nenc (x : Nd) : List UInt8 := nbody x ++ ck (nbody x) ++ zeros (nsz x.data.length - (24 + x.data.length))
theorem ck_length (l : List UInt8) : (ck l).length = 4 := rfl
theorem nenc_length (x : Nd) : (nenc x).length = nsz x.data.length := by
  have := nsz_bounds x.data.length
  simp only [nenc, List.length_append, nbody_length, ck_length, zeros, List.length_replicate]; omega
def nlen (b : List UInt8) : Nat := val ((b.drop 16).take 4)
/-- The form of a header. -/
def hform (b : List UInt8) : Prop := bat b 0 = 78 ∧ bat b 1 = 165 ∧ (bat b 2).toNat ≤ 1 ∧ bat b 3 = 0 ∧ nlen b ≤ 4096 ∧ (bat b 2 = 1 → nlen b = 0)
instance (b : List UInt8) : Decidable (hform b) := by unfold hform; exact inferInstance
def npad (b : List UInt8) : List UInt8 := (b.drop (24 + nlen b)).take (nsz (nlen b) - (24 + nlen b))
def nread (b : List UInt8) : Nd := ⟨val ((b.drop 8).take 8), val ((b.drop 4).take 4), bat b 2 == 1, (b.drop 20).take (nlen b)⟩
/-- What is read: the error, the needle, the length. -/
def ndec (b : List UInt8) : Int × Nd × Nat :=
  if b.length < 20 then (4, nd0, 0)
  else if ¬ hform b then (3, nd0, 0)
  else if b.length < nsz (nlen b) then (4, nd0, 0)
  else if ck (b.take (20 + nlen b)) ≠ (b.drop (20 + nlen b)).take 4 then (5, nd0, 0)
  else if ¬ (npad b).all (· == 0) then (3, nd0, 0)
  else (0, nread b, nsz (nlen b))
/-- The record is read. -/
structure NOk (b : List UInt8) : Prop where
  long : 20 ≤ b.length
  form : hform b
  whole : nsz (nlen b) ≤ b.length
  sum : ck (b.take (20 + nlen b)) = (b.drop (20 + nlen b)).take 4
  pad : (npad b).all (· == 0) = true
theorem ndec_ok {b : List UInt8} (h : NOk b) : ndec b = (0, nread b, nsz (nlen b)) := by
  unfold ndec
  rw [if_neg (by have := h.long; omega), if_neg (fun e => e h.form), if_neg (by have := h.whole; omega), if_neg (fun e => e h.sum), if_neg (fun e => e h.pad)]
theorem ndec_zero {b : List UInt8} (h : (ndec b).1 = 0) : NOk b := by
  unfold ndec at h
  split at h
  · cases h
  · split at h
    · cases h
    · split at h
      · cases h
      · split at h
        · cases h
        · split at h
          · cases h
          · rename_i h1 h2 h3 h4 h5
            exact ⟨by omega, Decidable.not_not.1 h2, by omega, Decidable.not_not.1 h4, by simpa using h5⟩
theorem ndec_bad {b : List UInt8} (h : ¬ NOk b) : (ndec b).1 ≠ 0 ∧ (ndec b).2 = (nd0, 0) := by
  refine ⟨fun e => h (ndec_zero e), ?_⟩
  unfold ndec
  split
  · rfl
  · split
    · rfl
    · split
      · rfl
      · split
        · rfl
        · split
          · rfl
          · rename_i h1 h2 h3 h4 h5
            exact absurd ⟨by omega, Decidable.not_not.1 h2, by omega, Decidable.not_not.1 h4, by simpa using h5⟩ h
theorem ndec_len {b : List UInt8} (h : NOk b) : 24 ≤ nsz (nlen b) ∧ nsz (nlen b) ≤ b.length ∧ nsz (nlen b) ≤ 4127 ∧ nlen b ≤ 4096 := by
  have h1 := nsz_bounds (nlen b)
  have h2 := h.form.2.2.2.2.1
  have h3 := h.whole
  omega
theorem bat_app_l {u v : List UInt8} {i : Nat} (h : i < u.length) : bat (u ++ v) i = bat u i := by
  unfold bat; rw [List.getD_eq_getElem?_getD, List.getD_eq_getElem?_getD, List.getElem?_append_left h]
theorem bat_app_r {u v : List UInt8} {i : Nat} (h : u.length ≤ i) : bat (u ++ v) i = bat v (i - u.length) := by
  unfold bat; rw [List.getD_eq_getElem?_getD, List.getD_eq_getElem?_getD, List.getElem?_append_right h]
theorem bat_take {l : List UInt8} {k i : Nat} (h : i < k) : bat (l.take k) i = bat l i := by
  unfold bat; rw [List.getD_eq_getElem?_getD, List.getElem?_take, if_pos h, ← List.getD_eq_getElem?_getD]
theorem bat_drop (l : List UInt8) (k i : Nat) : bat (l.drop k) i = bat l (k + i) := by
  unfold bat; rw [List.getD_eq_getElem?_getD, List.getElem?_drop, ← List.getD_eq_getElem?_getD]
/-- What a header says depends on the first twenty bytes. -/
theorem nlen_take {b : List UInt8} {k : Nat} (h : 20 ≤ k) : nlen (b.take k) = nlen b := by
  unfold nlen
  rw [List.drop_take, List.take_take, Nat.min_eq_left (by omega)]
theorem hform_take {b : List UInt8} {k : Nat} (h : 20 ≤ k) : hform (b.take k) ↔ hform b := by
  unfold hform
  rw [nlen_take h, bat_take (by omega), bat_take (by omega), bat_take (by omega), bat_take (by omega)]
theorem mid_app {u v : List UInt8} {i n : Nat} (h : i + n ≤ u.length) : ((u ++ v).drop i).take n = (u.drop i).take n := by
  rw [List.drop_append_of_le_length (by omega), List.take_append_of_le_length (by rw [List.length_drop]; omega)]
theorem hd_parts (x : Nd) (t : List UInt8) : (hd20 x ++ t).take 4 = [78, 165, if x.del then 1 else 0, 0] ∧ ((hd20 x ++ t).drop 4).take 4 = be x.ck 4 ∧ ((hd20 x ++ t).drop 8).take 8 = be x.key 8 ∧ ((hd20 x ++ t).drop 16).take 4 = be x.data.length 4 := by
  have l0 : ([78, 165, if x.del then 1 else 0, 0] : List UInt8).length = 4 := rfl
  have l1 := be_length x.ck 4
  have l2 := be_length x.key 8
  have l3 := be_length x.data.length 4
  unfold hd20
  generalize ([78, 165, if x.del then 1 else 0, 0] : List UInt8) = a at *
  generalize be x.ck 4 = b at *
  generalize be x.key 8 = c at *
  generalize be x.data.length 4 = d at *
  simp only [List.append_assoc]
  refine ⟨List.take_left' l0, ?_, ?_, ?_⟩
  · rw [List.drop_left' l0, List.take_left' l1]
  · rw [show 8 = 4 + 4 from rfl, ← List.drop_drop, List.drop_left' l0, List.drop_left' l1]; exact List.take_left' l2
  · rw [show 16 = 4 + (4 + 8) from rfl, ← List.drop_drop, ← List.drop_drop, List.drop_left' l0, List.drop_left' l1, List.drop_left' l2]; exact List.take_left' l3
theorem hd_bat (x : Nd) (t : List UInt8) : bat (hd20 x ++ t) 0 = 78 ∧ bat (hd20 x ++ t) 1 = 165 ∧ bat (hd20 x ++ t) 2 = (if x.del then 1 else 0) ∧ bat (hd20 x ++ t) 3 = 0 := by
  have h := (hd_parts x t).1
  have e : ∀ i, i < 4 → bat (hd20 x ++ t) i = bat [78, 165, if x.del then 1 else 0, 0] i := fun i hi => by rw [← h, bat_take hi]
  exact ⟨e 0 (by omega), e 1 (by omega), e 2 (by omega), e 3 (by omega)⟩
theorem hd_nlen {x : Nd} (h : x.data.length ≤ 4096) (t : List UInt8) : nlen (hd20 x ++ t) = x.data.length := by
  unfold nlen
  rw [(hd_parts x t).2.2.2, val_be 4 _ (by omega) (by omega)]
theorem hd_form {x : Nd} (h : x.ok) (t : List UInt8) : hform (hd20 x ++ t) := by
  obtain ⟨a, b, c, d⟩ := hd_bat x t
  refine ⟨a, b, ?_, d, by rw [hd_nlen h.1]; exact h.1, fun e => ?_⟩
  · rw [c]; split <;> decide
  · rw [hd_nlen h.1]
    rw [c] at e
    cases hd : x.del with
    | true => rw [h.2 hd]; rfl
    | false => rw [hd] at e; exact absurd e (by decide)
theorem all_zeros (n : Nat) : (zeros n).all (· == 0) = true := by
  rw [List.all_eq_true]
  intro x hx
  rw [zeros] at hx
  simp [(List.mem_replicate.1 hx).2]
theorem nenc_split (x : Nd) (t : List UInt8) : nenc x ++ t = hd20 x ++ (x.data ++ (ck (nbody x) ++ (zeros (nsz x.data.length - (24 + x.data.length)) ++ t))) := by simp [nenc, nbody]
/-- What was written is read back, whatever follows. -/
theorem nok_enc {x : Nd} (h : x.ok) (t : List UInt8) : NOk (nenc x ++ t) := by
  have hn : nlen (nenc x ++ t) = x.data.length := by rw [nenc_split]; exact hd_nlen h.1 _
  have hl := nenc_length x
  have hb := nsz_bounds x.data.length
  refine ⟨by rw [List.length_append, hl]; omega, by rw [nenc_split]; exact hd_form h _, by rw [hn, List.length_append, hl]; omega, ?_, ?_⟩
  · rw [hn]
    have e1 : (nenc x ++ t).take (20 + x.data.length) = nbody x := by
      rw [nenc, List.append_assoc, List.append_assoc, List.take_left' (nbody_length x)]
    have e2 : (nenc x ++ t).drop (20 + x.data.length) = ck (nbody x) ++ (zeros (nsz x.data.length - (24 + x.data.length)) ++ t) := by
      rw [nenc, List.append_assoc, List.append_assoc, List.drop_left' (nbody_length x)]
    rw [e1, e2, List.take_left' (ck_length _)]
  · unfold npad
    rw [hn]
    have e2 : (nenc x ++ t).drop (24 + x.data.length) = zeros (nsz x.data.length - (24 + x.data.length)) ++ t := by
      rw [nenc, List.append_assoc, List.drop_left' (by rw [List.length_append, nbody_length, ck_length]; omega)]
    rw [e2, List.take_left' (by simp [zeros])]
    exact all_zeros _
theorem ndec_enc {x : Nd} (h : x.ok) (hw : x.Wf) (t : List UInt8) : ndec (nenc x ++ t) = (0, x, nsz x.data.length) := by
  have hn : nlen (nenc x ++ t) = x.data.length := by rw [nenc_split]; exact hd_nlen h.1 _
  rw [ndec_ok (nok_enc h t), hn]
  congr 2
  unfold nread
  rw [hn, nenc_split]
  obtain ⟨_, p1, p2, _⟩ := hd_parts x (x.data ++ (ck (nbody x) ++ (zeros (nsz x.data.length - (24 + x.data.length)) ++ t)))
  rw [p1, p2, val_be 8 _ (by omega) hw.1, val_be 4 _ (by omega) hw.2, (hd_bat x _).2.2.1, List.drop_left' (hd20_length x), List.take_left' rfl]
  cases x with
  | mk k c d l => cases d <;> rfl
/-- A record of which bytes are missing is not read. -/
theorem ndec_torn {x : Nd} (h : x.ok) {k : Nat} (hk : k < nsz x.data.length) (t : List UInt8) : ¬ NOk ((nenc x ++ t).take k) := fun hn => by
  have h1 := hn.long
  have h2 := hn.whole
  rw [List.length_take] at h1
  have hk20 : 20 ≤ k := by omega
  rw [nlen_take hk20, List.length_take, nenc_split, hd_nlen h.1] at h2
  omega
end Go.Proofs.YtenkeodfijladaaGreatDoor

namespace Go.Proofs.YtenkeodfijladaaGreatDoor
open Go.RowKit

/-- What Size answers for a number of bytes. -/
def szN (n : Nat) : Nat := if n ≤ 4096 then nsz n else 0
theorem szN_of {n : Nat} (h : n ≤ 4096) : szN n = nsz n := by unfold szN; rw [if_pos h]
theorem szN_le (n : Nat) : szN n ≤ 4127 := by
  unfold szN
  split
  · have := nsz_bounds n; omega
  · omega
theorem nsize_any (n : Nat) (w : World) (h : n ≤ 1000000) : Calls Tryz.prog 29 #[.int .i64 (n : Int)] w fun e w' => e = .returned (.int .i64 ((szN n : Nat) : Int)) ∧ w = w' := by
  by_cases hn : n ≤ 4096
  · have HS := Lib.hid (show ((szN n : Nat) : Int) = (20 + (n : Int) + 4 + 8 - 1) / 8 * 8 by unfold szN nsz; rw [if_pos hn]; omega)
    have hd : decide ((4096 : Int) < (n : Int)) = false := by simp; omega
    have hd2 : decide ((n : Int) < 0) = false := by simp
    go_enter Tryz.func29, Tryz.ntmps29
    go_wp2_with fail
    go_ret
    exact ⟨ret_int (by rw [HS.out]), rfl⟩
  · have HS := Lib.hid (show szN n = 0 by unfold szN; rw [if_neg hn])
    have hd : decide ((4096 : Int) < (n : Int)) = true := by simp; omega
    have hd2 : decide ((n : Int) < 0) = false := by simp
    go_enter Tryz.func29, Tryz.ntmps29
    go_wp2_with fail
    go_ret
    exact ⟨ret_int (by rw [HS.out]; rfl), rfl⟩
theorem rsize_any (n : Nat) (w : World) (h : n ≤ 1000000) : Calls Tryz.prog 35 #[.int .i64 (n : Int)] w fun e w' => e = .returned (.int .i64 ((szN n : Nat) : Int)) ∧ w = w' := by
  by_cases hn : n ≤ 4096
  · have HS := Lib.hid (show ((szN n : Nat) : Int) = (20 + (n : Int) + 4 + 8 - 1) / 8 * 8 by unfold szN nsz; rw [if_pos hn]; omega)
    have hd : decide ((4096 : Int) < (n : Int)) = false := by simp; omega
    have hd2 : decide ((n : Int) < 0) = false := by simp
    go_enter Tryz.func35, Tryz.ntmps35
    go_wp2_with fail
    go_ret
    exact ⟨ret_int (by rw [HS.out]; omega), rfl⟩
  · have HS := Lib.hid (show szN n = 0 by unfold szN; rw [if_neg hn])
    have hd : decide ((4096 : Int) < (n : Int)) = true := by simp; omega
    have hd2 : decide ((n : Int) < 0) = false := by simp
    go_enter Tryz.func35, Tryz.ntmps35
    go_wp2_with fail
    go_ret
    exact ⟨ret_int (by rw [HS.out]; rfl), rfl⟩
/-- The bytes of a number, the least significant one first. -/
theorem le4_at {c j : Nat} (h : j < 4) : bat (le4 c) j = UInt8.ofNat (c / 2 ^ (8 * j)) := by
  match j, h with
  | 0, _ => show UInt8.ofNat c = _; rw [Nat.mul_zero, Nat.pow_zero, Nat.div_one]
  | 1, _ => rfl
  | 2, _ => rfl
  | 3, _ => rfl
/-- A row of the call's own does not lie in a block of another type. -/
theorem own_not_at {w : World} {B : Nat} {e e' : TypeId} {sz n p : Nat} {v : Value} {xs : List Value} {cs : Array Value} (h : w.ownsRow B e sz v n xs) (hp : w.heap[p]? = some (.cells cs e' (0, 0))) (hne : e ≠ e') : v.ownBlock ≠ some p := fun e1 => by
  obtain ⟨c, fz, h1⟩ := Lib.ownsRow_kind h p e1
  rw [h1] at hp
  injection hp with hp
  injection hp with _ hp
  exact hne hp
theorem own_set_ne {w : World} {B : Nat} {e : TypeId} {sz n : Nat} {v : Value} {xs : List Value} (h : w.ownsRow B e sz v n xs) {p : Addr} (hne : v.ownBlock ≠ some p.block) (u : Value) : (w.setCell p u).ownsRow B e sz v n xs := by
  refine ⟨h.1, ?_⟩
  rcases h.2 with h0 | ⟨g, cap, cur, rfl, hb, hg, rest⟩
  · exact .inl h0
  · refine .inr ⟨g, cap, cur, rfl, hb, ?_, rest⟩
    rw [Below.heap_setCell w p u g (fun e => hne (by rw [← e]; rfl))]; exact hg
end Go.Proofs.YtenkeodfijladaaGreatDoor
