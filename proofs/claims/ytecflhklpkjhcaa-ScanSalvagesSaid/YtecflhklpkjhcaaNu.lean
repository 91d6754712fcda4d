/- The walks over numbers as bytes: big, number, sum and the reference's Number, Value, Check. -/
import Derived.Test.YtecflhklpkjhcaaCr
import Derived.Test.YtecflhklpkjhcaaPe
import Derived.Laws.OwnMore
namespace Go.Proofs.Ytecflhklpkjhcaa
open Go.RowKit

theorem infoB : (Try.prog.info? 5).map (fun i => (i.zero, i.size, i.bytes)) = some (some (.int .u8 0), 1, 1) := by kernel_rfl
theorem elemB : ElemT Try.prog 23 5 1 1 := by
  obtain ⟨i, h1, h2, h3, h4⟩ := info_parts infoB
  exact ⟨Try.underlying23, by decide, i, _, h1, h2, h3, h4, rfl⟩
/-- v is a slice of bytes of the call's own, in a block from base on. -/
abbrev OwnB (w : World) (base : Nat) (v : Value) (l : List UInt8) : Prop := w.ownsRow base 5 1 v l.length (l.map byteV)
theorem ownB_of {w : World} {base n : Nat} {v : Value} {l : List UInt8} {xs : List Value} (h : w.ownsRow base 5 1 v n xs) (e : xs = l.map byteV) : OwnB w base v l := by
  subst e
  have : l.length = n := by have := h.1; rw [List.length_map] at this; omega
  unfold OwnB; rw [this]; exact h
theorem OwnB.rd {w : World} {base : Nat} {v : Value} {l : List UInt8} (h : OwnB w base v l) : RdB w v l := own_rdl h
theorem rd_byte (w : World) (x : UInt8) (e : TypeId) : Rd (w.alloc (.cells #[.int .u8 (x.toNat : Int)] e)) 1 (.slice (some ⟨w.heap.size, 0, none⟩) 1 1) 1 ([x].map byteV) := Rd.new w 1 _ e 1 rfl (by decide)
theorem byte_be (v m : Nat) : ((v : Int) / 2 ^ m % 256) = ((UInt8.ofNat (v / 2 ^ m)).toNat : Int) := by
  rw [UInt8.toNat_ofNat', Int.natCast_emod, Int.natCast_ediv, Int.natCast_pow]; rfl
set_option maxHeartbeats 400000 in
theorem rnum_any (v n : Nat) (w : World) (hn : n ≤ 8) (_hv : v < 18446744073709551616) :
    Calls Try.prog 44 #[.int .u64 (v : Int), .int .i64 (n : Int)] w fun e w' => ∃ v', e = .returned v' ∧ OwnB w' w.heap.size v' (be v n) ∧ Below w.heap.size w w' := by
  have HS := Lib.hid (show ∀ k, k < (be v n).length → _ from fun k => btake_snoc (l := be v n) (j := k))
  have HE := Lib.hid (show (be v n).take (be v n).length = be v n from List.take_length)
  have HA := Lib.hid (show ∀ k, k < n → _ from fun k => be_at (v := v) (n := n) (j := k))
  have hl := be_length v n
  generalize be v n = l at *
  have HL := Lib.hid hl
  clear hl
  go_enter Try.func44, Try.ntmps44
  go_wp2_with fail
  go_loopw [5, 6] (fun bv iv wr => ∃ k : Nat, iv = .int .i64 ((n : Int) - 1 - (k : Int)) ∧ k ≤ n ∧ wr.ownsRow w.heap.size 5 1 bv k ((l.take k).map byteV) ∧ Below w.heap.size w wr) (fun _ iv _ => (intOf iv + 1).toNat)
  case atStart => exact ⟨0, by simp, Nat.zero_le _, World.ownsRow_nil _ _ _ _, Below.refl _ _⟩
  case round =>
    obtain ⟨k, rfl, hk, hown, hb⟩ := hrel
    have Hown := Lib.hid hown
    have Hb := Lib.hid hb
    have hB2 := hb.size
    clear hown hb
    by_cases hlt : k < n
    · have HSk := Lib.hid (HS.out k (by rw [HL.out]; exact hlt))
      have HAk := Lib.hid (HA.out k hlt)
      have hbyte : ((v : Int) / 2 ^ (8 * (n - 1 - k)) % 256) = ((bat l k).toNat : Int) := by rw [HAk.out]; exact byte_be v _
      generalize bat l k = x at *
      go_wp2_with (at_builtin; go_must (refine wpList_app rfl (.tmp 13) (.tmp 20) 23 rfl elemB w.heap.size rfl (Hown.out.alloc _) rfl (rd_byte _ x _) (bytes_one [x]) (by unfold maxLen; omega) (by omega) (by simp; omega) ?_); intro v2 w2 hown2 hgr2 hv2; clear hv2)
      have HO2 := Lib.hid hown2
      have HB2 := Lib.hid (own_below (Hb.out.alloc hB2 _) (Hown.out.alloc _) (by simp; omega) hgr2)
      clear hown2 hgr2 hbyte
      go_wp2_with fail
      refine ⟨⟨k + 1, by go_num, by omega, ?_, HB2.out⟩, by simp [intOf]; omega⟩
      rw [HSk.out, List.map_append]; exact HO2.out
    · obtain rfl : n = k := by omega
      have HF := Lib.hid (ownB_of Hown.out (by rw [← HL.out, HE.out]))
      have hd : decide ((0 : Int) ≤ (n : Int) - 1 - (n : Int)) = false := by simp; omega
      go_wp2_with fail
      go_ret
      exact ⟨_, rfl, HF.out, Hb.out⟩
theorem val_bits (q : Nat) (x : UInt8) : bits .or .u64 (IntKind.u64.wrap ((q : Int) * 256)) (x.toNat : Int) = (((q * 256 + x.toNat) % 18446744073709551616 : Nat) : Int) := by
  have b3 := x.toNat_lt
  rw [← val_or, IntKind.wrap_u64]
  exact u64_or_nat (q * 256 % 18446744073709551616) x.toNat (by omega) (by omega)
set_option maxHeartbeats 400000 in
theorem rval_any (v : Value) (l : List UInt8) (w : World) (h : RdB w v l) :
    Calls Try.prog 55 #[v] w fun e w' => e = .returned (.int .u64 (val l : Int)) ∧ w = w' := by
  obtain ⟨a, cap, rfl, h1, h2⟩ := h.shape0
  have hm := lt63 h1 h2
  have HS := Lib.hid (show ∀ k, k < l.length → val (l.take (k + 1)) = (val (l.take k) * 256 + (bat l k).toNat) % 18446744073709551616 from fun k hk => by rw [btake_snoc hk, val_snoc])
  have HE := Lib.hid (show l.take l.length = l from List.take_length)
  generalize hn : l.length = n at *
  have Hr := Lib.hid h
  clear h hn h1 h2
  go_enter Try.func55, Try.ntmps55
  go_wp2_with fail
  go_loop [3, 4] (fun rv kv => ∃ k : Nat, k ≤ n ∧ kv = .int .i64 (k : Int) ∧ rv = .int .u64 (val (l.take k) : Int)) (fun _ kv => n - (intOf kv).toNat)
  case atStart => exact ⟨0, by omega, rfl, rfl⟩
  case round =>
    obtain ⟨k, hk, rfl, rfl⟩ := hrel
    have hl := val_lt (l.take k)
    by_cases hlt : k < n
    · obtain ⟨b, off, rfl, c0⟩ := Hr.out.at hlt
      have HK := Lib.hid (HS.out k hlt)
      generalize val (l.take k) = q at *
      generalize bat l k = x at *
      have b3 := x.toNat_lt
      have B1 := Lib.hid (val_bits q x)
      go_wp2_with fail
      exact ⟨⟨k + 1, by omega, by go_num, by rw [B1.out, HK.out]⟩, by simp [intOf]; omega⟩
    · obtain rfl : k = n := by omega
      have HF := Lib.hid (show val (l.take k) = val l by rw [HE.out])
      generalize val (l.take k) = q at *
      go_wp2_with fail
      go_ret
      exact ⟨ret_int (by rw [HF.out]), rfl⟩
theorem le4_len (c : Nat) : (le4 c).length = 4 := rfl
theorem le4_cells (c : Nat) (h : c < 4294967296) : (#[Value.int .u8 ((c : Int) % 256), .int .u8 ((c : Int) / 256 % 256), .int .u8 ((c : Int) / 65536 % 256), .int .u8 ((c : Int) / 16777216)] : Array Value) = ((le4 c).map byteV).toArray := by
  have e : ∀ m : Nat, ((UInt8.ofNat m).toNat : Int) = (m : Int) % 256 := fun m => by rw [UInt8.toNat_ofNat']; rfl
  show _ = (#[Value.int .u8 ((UInt8.ofNat c).toNat : Int), .int .u8 ((UInt8.ofNat (c / 2 ^ 8)).toNat : Int), .int .u8 ((UInt8.ofNat (c / 2 ^ 16)).toNat : Int), .int .u8 ((UInt8.ofNat (c / 2 ^ 24)).toNat : Int)] : Array Value)
  rw [e, e, e, e]
  have e4 : (c : Int) / 16777216 = ((c / 2 ^ 24 : Nat) : Int) % 256 := by omega
  rw [e4]
  rfl
theorem le4_own (w : World) (c : Nat) (h : c < 4294967296) : OwnB (w.alloc (.cells #[.int .u8 ((c : Int) % 256), .int .u8 ((c : Int) / 256 % 256), .int .u8 ((c : Int) / 65536 % 256), .int .u8 ((c : Int) / 16777216)] 5)) w.heap.size (.slice (some ⟨w.heap.size, 0, none⟩) 4 4) (le4 c) := by
  rw [le4_cells c h]
  exact World.ownsRow_lit w _ 4 (Nat.le_refl _) (by decide) rfl
theorem rcheck_any (v : Value) (l : List UInt8) (w : World) (h : RdB w v l) :
    Calls Try.prog 45 #[v] w fun e w' => ∃ v', e = .returned v' ∧ OwnB w' w.heap.size v' (ck l) ∧ Below w.heap.size w w' := by
  have HX := Lib.hid (rsum_any v l w h)
  have hc := Crc.sum_lt l
  have HK := Lib.hid (show ck l = le4 (Crc.sum l) from rfl)
  generalize Crc.sum l = c at *
  clear h
  go_enter Try.func45, Try.ntmps45
  go_wp2_with fail
  refine HX.out.mono ?_; rintro e w1 ⟨rfl, rfl⟩
  go_wp2_with fail
  go_ret
  exact ⟨_, rfl, by rw [HK.out]; exact le4_own w c hc, (Below.refl _ _).alloc (Nat.le_refl _) _⟩
end Go.Proofs.Ytecflhklpkjhcaa
