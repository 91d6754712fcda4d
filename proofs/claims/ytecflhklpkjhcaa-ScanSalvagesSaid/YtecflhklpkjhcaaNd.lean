/- The walks over needle's small functions. -/
import Derived.Test.YtecflhklpkjhcaaNu
import Derived.Test.YtecflhklpkjhcaaNp
import Derived.Deep.RegionWith
import Derived.Deep.RegionLaw
import Derived.Lib.OwnKind
import Derived.OneCell
namespace Go.Proofs.Ytecflhklpkjhcaa
open Go.RowKit

/-- What Size answers for a number of bytes. -/
def szN (n : Nat) : Nat := if n ≤ 4096 then nsz n else 0
theorem szN_of {n : Nat} (h : n ≤ 4096) : szN n = nsz n := by unfold szN; rw [if_pos h]
theorem szN_le (n : Nat) : szN n ≤ 4127 := by
  unfold szN
  split
  · have := nsz_bounds n; omega
  · omega
theorem nsize_any (n : Nat) (w : World) (h : n ≤ 1000000) : Calls Try.prog 16 #[.int .i64 (n : Int)] w fun e w' => e = .returned (.int .i64 ((szN n : Nat) : Int)) ∧ w = w' := by
  by_cases hn : n ≤ 4096
  · have HS := Lib.hid (show ((szN n : Nat) : Int) = (20 + (n : Int) + 4 + 8 - 1) / 8 * 8 by unfold szN nsz; rw [if_pos hn]; omega)
    have hd : decide ((4096 : Int) < (n : Int)) = false := by simp; omega
    have hd2 : decide ((n : Int) < 0) = false := by simp
    go_enter Try.func16, Try.ntmps16
    go_wp2_with fail
    go_ret
    exact ⟨ret_int (by rw [HS.out]), rfl⟩
  · have HS := Lib.hid (show szN n = 0 by unfold szN; rw [if_neg hn])
    have hd : decide ((4096 : Int) < (n : Int)) = true := by simp; omega
    have hd2 : decide ((n : Int) < 0) = false := by simp
    go_enter Try.func16, Try.ntmps16
    go_wp2_with fail
    go_ret
    exact ⟨ret_int (by rw [HS.out]; rfl), rfl⟩
theorem rsize_any (n : Nat) (w : World) (h : n ≤ 1000000) : Calls Try.prog 39 #[.int .i64 (n : Int)] w fun e w' => e = .returned (.int .i64 ((szN n : Nat) : Int)) ∧ w = w' := by
  by_cases hn : n ≤ 4096
  · have HS := Lib.hid (show ((szN n : Nat) : Int) = (20 + (n : Int) + 4 + 8 - 1) / 8 * 8 by unfold szN nsz; rw [if_pos hn]; omega)
    have hd : decide ((4096 : Int) < (n : Int)) = false := by simp; omega
    have hd2 : decide ((n : Int) < 0) = false := by simp
    go_enter Try.func39, Try.ntmps39
    go_wp2_with fail
    go_ret
    exact ⟨ret_int (by rw [HS.out]; omega), rfl⟩
  · have HS := Lib.hid (show szN n = 0 by unfold szN; rw [if_neg hn])
    have hd : decide ((4096 : Int) < (n : Int)) = true := by simp; omega
    have hd2 : decide ((n : Int) < 0) = false := by simp
    go_enter Try.func39, Try.ntmps39
    go_wp2_with fail
    go_ret
    exact ⟨ret_int (by rw [HS.out]; rfl), rfl⟩
set_option maxHeartbeats 400000 in
theorem nbig_any (v : Value) (l : List UInt8) (w : World) (h : RdB w v l) :
    Calls Try.prog 29 #[v] w fun e w' => e = .returned (.int .u64 (val l : Int)) ∧ w = w' := by
  obtain ⟨a, cap, rfl, h1, h2⟩ := h.shape0
  have hm := lt63 h1 h2
  have HS := Lib.hid (show ∀ k, k < l.length → val (l.take (k + 1)) = (val (l.take k) * 256 + (bat l k).toNat) % 18446744073709551616 from fun k hk => by rw [btake_snoc hk, val_snoc])
  have HE := Lib.hid (show l.take l.length = l from List.take_length)
  generalize hn : l.length = n at *
  have Hr := Lib.hid h
  clear h hn h1 h2
  go_enter Try.func29, Try.ntmps29
  go_wp2_with fail
  go_loop [3, 8] (fun rv kv => ∃ k : Nat, k ≤ n ∧ kv = .int .i64 (k : Int) ∧ rv = .int .u64 (val (l.take k) : Int)) (fun _ kv => n - (intOf kv).toNat)
  case atStart => exact ⟨0, by omega, rfl, rfl⟩
  case round =>
    obtain ⟨k, hk, rfl, rfl⟩ := hrel
    have hl := val_lt (l.take k)
    by_cases hlt : k < n
    · obtain ⟨b, off, rfl, c0⟩ := Hr.out.at hlt
      have HK := Lib.hid (HS.out k hlt)
      generalize val (l.take k) = q at *
      generalize bat l k = x at *
      have b3 := x.toNat_lt
      have B1 := Lib.hid (val_bits q x)
      go_wp2_with fail
      exact ⟨⟨k + 1, by omega, by go_num, by rw [B1.out, HK.out]⟩, by simp [intOf]; omega⟩
    · obtain rfl : k = n := by omega
      have HF := Lib.hid (show val (l.take k) = val l by rw [HE.out])
      generalize val (l.take k) = q at *
      go_wp2_with fail
      go_ret
      exact ⟨ret_int (by rw [HF.out]), rfl⟩
/-- The bytes of a number, the least significant one first. -/
theorem le4_at {c j : Nat} (h : j < 4) : bat (le4 c) j = UInt8.ofNat (c / 2 ^ (8 * j)) := by
  match j, h with
  | 0, _ => show UInt8.ofNat c = _; rw [Nat.mul_zero, Nat.pow_zero, Nat.div_one]
  | 1, _ => rfl
  | 2, _ => rfl
  | 3, _ => rfl
/-- A row of the call's own does not lie in a block of another type. -/
theorem own_not_at {w : World} {B : Nat} {e e' : TypeId} {sz n p : Nat} {v : Value} {xs : List Value} {cs : Array Value} (h : w.ownsRow B e sz v n xs) (hp : w.heap[p]? = some (.cells cs e' (0, 0))) (hne : e ≠ e') : v.ownBlock ≠ some p := fun e1 => by
  obtain ⟨c, fz, h1⟩ := Lib.ownsRow_kind h p e1
  rw [h1] at hp
  injection hp with hp
  injection hp with _ hp
  exact hne hp
theorem own_set_ne {w : World} {B : Nat} {e : TypeId} {sz n : Nat} {v : Value} {xs : List Value} (h : w.ownsRow B e sz v n xs) {p : Addr} (hne : v.ownBlock ≠ some p.block) (u : Value) : (w.setCell p u).ownsRow B e sz v n xs := by
  refine ⟨h.1, ?_⟩
  rcases h.2 with h0 | ⟨g, cap, cur, rfl, hb, hg, rest⟩
  · exact .inl h0
  · refine .inr ⟨g, cap, cur, rfl, hb, ?_, rest⟩
    rw [Below.heap_setCell w p u g (fun e => hne (by rw [← e]; rfl))]; exact hg
set_option maxRecDepth 100000 in
set_option maxHeartbeats 1000000 in
theorem little_any (p c B : Nat) (w : World) (hp : B ≤ p) (hpt : w.heap[p]? = some (.cells #[.slice none 0 0] 76 (0, 0))) (hB : B ≤ w.heap.size) (_hc : c < 4294967296) :
    Calls Try.prog 30 #[.pointer (some ⟨p, 0, none⟩), .int .u64 (c : Int), .int .i64 4] w fun e w' => e = .returned (.tuple #[]) ∧ ∃ v, w'.cell? ⟨p, 0, none⟩ = some v ∧ OwnB w' B v (le4 c) ∧ Below B w w' := by
  have HS := Lib.hid (show ∀ k, k < (le4 c).length → _ from fun k => btake_snoc (l := le4 c) (j := k))
  have HA := Lib.hid (show ∀ k, k < 4 → _ from fun k => le4_at (c := c) (j := k))
  have HL := Lib.hid (show (le4 c).length = 4 from rfl)
  generalize le4 c = l at *
  have HP := Lib.hid hpt
  clear hpt
  go_enter Try.func30, Try.ntmps30
  go_wp2_with fail
  go_loopw [8] (fun iv wr => ∃ (k : Nat) (v : Value), iv = .int .i64 (k : Int) ∧ k ≤ 4 ∧ wr.heap[p]? = some (.cells #[v] 76 (0, 0)) ∧ wr.ownsRow B 5 1 v k ((l.take k).map byteV) ∧ Below B w wr) (fun iv _ => 4 - (intOf iv).toNat)
  case atStart => exact ⟨0, .slice none 0 0, by go_num, by omega, HP.out, World.ownsRow_nil _ _ _ _, Below.refl _ _⟩
  case round =>
    obtain ⟨k, v, rfl, hk, hpv, hown, hb⟩ := hrel
    have HPv := Lib.hid hpv
    have HO := Lib.hid hown
    have Hb := Lib.hid hb
    have hB2 : B ≤ wr.heap.size := Nat.le_trans hB hb.size
    have c0 := cell_of_one hpv
    have f0 := free_of_one hpv
    clear hpv hown hb
    by_cases hlt : k < 4
    · have HSk := Lib.hid (HS.out k (by rw [HL.out]; exact hlt))
      have hbyte : IntKind.u8.wrap ((c : Int) / 2 ^ (8 * k)) = ((bat l k).toNat : Int) := by rw [HA.out k hlt, ← byte_be c _]; simp [IntKind.wrap, IntKind.signed, IntKind.bits]
      generalize bat l k = x at *
      have j1 : IntKind.i64.wrap (8 * (k : Int)) = 8 * (k : Int) := IntWalk.i64_in _ (by omega)
      have j2 : (0 : Int) ≤ 8 * (k : Int) := by omega
      have j3 : (8 * (k : Int)).toNat = 8 * k := by omega
      have j4 : 8 * (k : Int) < 64 := by omega
      have hpw : p < wr.heap.size := World.block_lt_of_cell? _ _ c0
      have HCP := Lib.hid (fun o W (h : ((wr.alloc o).drew).grownBy W v.ownBlock) => show W.heap[p]? = some (.cells #[v] 76 (0, 0)) from by
        rw [h.block p (by simp; omega) (fun e => own_not_at HO.out HPv.out (by decide) e.symm)]
        exact (Below.heap_alloc wr o p hpw).trans HPv.out)
      go_wp2_with fail
      go_region_law ((refine step_app (by rfl) (.tmp 15) (.tmp 21) 23 (by rfl) elemB B (by rfl) ((HO.out.alloc _).drew) (by rfl) (Rd.drew (rd_byte wr x _)) (bytes_one [x]) (by unfold maxLen; omega) (by omega) (by simp; omega) ?_; intro v2 w2 hown2 hgr2 hv2; clear hv2; obtain ⟨oa2, oc2, hv2, _, _, _⟩ := own_form hown2; subst hv2; have hp2 := HCP.out _ _ hgr2; have c2 := cell_of_one hp2; have f2 := free_of_one hp2))
      all_goals
        have HP3 := one_setCell (u := .slice oa2 (k + 1) oc2) hp2
        have HO3 := own_set_ne hown2 (p := ⟨p, 0, none⟩) (own_not_at hown2 hp2 (by decide)) (.slice oa2 (k + 1) oc2)
        have HB3 := (own_below (below_drew (Hb.out.alloc hB2 _)) ((HO.out.alloc _).drew) (by simp; omega) hgr2).setCell (p := ⟨p, 0, none⟩) hp (.slice oa2 (k + 1) oc2)
        clear hgr2 hp2 c2 f2 hbyte j1 j2 j3 j4 hown2
        go_wp2_with fail
        exact ⟨⟨k + 1, _, by go_num, by omega, HP3, by rw [HSk.out, List.map_append]; exact HO3, HB3⟩, by simp [intOf]; omega⟩
    · obtain rfl : k = 4 := by omega
      go_wp2_with fail
      go_end0
      exact ⟨rfl, v, c0, by unfold OwnB; rw [HL.out]; rw [List.take_of_length_le (by rw [HL.out]; exact Nat.le_refl _)] at HO; exact HO.out, Hb.out⟩
end Go.Proofs.Ytecflhklpkjhcaa
