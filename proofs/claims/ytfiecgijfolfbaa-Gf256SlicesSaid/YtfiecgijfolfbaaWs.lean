/- The walks over gf256.MulAdd and the reference's. -/
import Derived.Test.YtfiecgijfolfbaaBase
import Derived.Test.YtfiecgijfolfbaaWl
import Derived.Deep.LoopGhost
import Derived.Deep.RegionLaw
import Derived.Deep.RegionHeld3
import Derived.Deep.RegionWith
import Derived.StillTailTactics
namespace Go.Proofs.Ytfiecgijfolfbaa
open Go.RowKit

theorem info5 : (Try.prog.info? 5).map (fun i => (i.zero, i.size, i.bytes)) = some (some (.int .u8 0), 1, 1) := by kernel_rfl
theorem elem30 : ElemT Try.prog 30 5 1 1 := by
  obtain ⟨i, h1, h2, h3, h4⟩ := info_parts info5
  exact ⟨Try.underlying30, by decide, i, _, h1, h2, h3, h4, rfl⟩

/-- One byte of the sum. -/
def ma (c d s : UInt8) : UInt8 := UInt8.ofNat (d.toNat ^^^ Gf.mul c.toNat s.toNat)
theorem ma_nat (c d s : UInt8) : (ma c d s).toNat = d.toNat ^^^ Gf.mul c.toNat s.toNat := by
  unfold ma
  rw [UInt8.toNat_ofNat']
  exact Nat.mod_eq_of_lt (Gf.xor_lt d.toNat_lt (Gf.mul_lt _ c.toNat_lt))
def mas (c : UInt8) (ds ss : List UInt8) : List UInt8 := List.zipWith (ma c) ds ss

theorem mas_length (c : UInt8) {ds ss : List UInt8} (h : ds.length = ss.length) : (mas c ds ss).length = ds.length := by simp [mas, h]
theorem mas_take (c : UInt8) (ds ss : List UInt8) (k : Nat) (h1 : k < ds.length) (h2 : k < ss.length) :
    bcells ((mas c ds ss).take (k + 1)) = bcells ((mas c ds ss).take k) ++ [.int .u8 ((ma c (ds.getD k 0) (ss.getD k 0)).toNat : Int)] := by
  have hk : k < (mas c ds ss).length := by simp [mas]; omega
  rw [List.take_succ_eq_append_getElem hk, bcells_append]
  congr 1
  simp [bcells, mas, List.getElem?_eq_getElem h1, List.getElem?_eq_getElem h2]
set_option maxHeartbeats 400000 in
theorem rma_ok (vd vs : Value) (ds ss : List UInt8) (c : UInt8) (w : World) (hd : RdB w vd ds) (hs : RdB w vs ss) (hl : ds.length = ss.length) (hlt : ds.length < 1000000000) :
    Calls Try.prog 20 #[vd, vs, .int .u8 (c.toNat : Int)] w fun e w' => ∃ v, e = .returned (.tuple #[v, .int .i64 0]) ∧ w'.ownsRow w.heap.size 5 1 v ds.length (bcells (mas c ds ss)) ∧ Below w.heap.size w w' := by
  have HN := Lib.hid (show ∀ k, k < ds.length → _ from fun k hk => mas_take c ds ss k hk (hl ▸ hk))
  have HE := Lib.hid (show (mas c ds ss).take ds.length = mas c ds ss from List.take_of_length_le (Nat.le_of_eq (mas_length c hl)))
  obtain ⟨a, cap, rfl, d1, d2, d3, d4⟩ := hd.shape
  obtain ⟨a', cap', rfl, s1, s2, s3, s4⟩ := hs.shape
  rw [← hl] at *
  generalize hn : ds.length = n at *
  clear hl hn
  go_enter Try.func20, Try.ntmps20
  go_wp2_with fail
  go_loopw [8, 9] (fun v i wr => ∃ k : Nat, k ≤ n ∧ i = .int .i64 (k : Int) ∧ wr.ownsRow w.heap.size 5 1 v k (bcells ((mas c ds ss).take k)) ∧ Below w.heap.size w wr) (fun _ i _ => n - (intOf i).toNat)
  case atStart => exact ⟨0, Nat.zero_le _, rfl, by simpa [bcells] using World.ownsRow_nil _ _ _ _, Below.refl _ _⟩
  case round =>
    obtain ⟨k, hk, rfl, hown, hbel⟩ := hrel
    by_cases hlt2 : k < n
    · obtain ⟨b, off, rfl, hc⟩ := d4 (by omega)
      obtain ⟨b', off', rfl, hc'⟩ := s4 (by omega)
      have g1 := hc k hlt2
      have g2 := hc' k hlt2
      have hn3 : (k : Int) < (n : Int) := by omega
      have hown2 := Lib.hid hown
      have hbel2 := Lib.hid hbel
      have hB := hbel.size
      clear hown hbel
      have HT := Lib.hid (HN.out k hlt2)
      generalize (ds.getD k 0) = d at *
      generalize (ss.getD k 0) = s at *
      have HS := Lib.hid (show ∀ w', Below w.heap.size w w' → w'.cell? ⟨b, off + k, none⟩ = some (.int .u8 (d.toNat : Int)) ∧ w'.cell? ⟨b', off' + k, none⟩ = some (.int .u8 (s.toNat : Int)) from
        fun w' h => ⟨Below.keeps h _ _ g1, Below.keeps h _ _ g2⟩)
      clear g1 g2 hc hc'
      have b1 := d.toNat_lt
      have b2 := s.toNat_lt
      have b3 := c.toNat_lt
      have X := u8_xor_nat d.toNat (Gf.mul c.toNat s.toNat) b1 (Gf.mul_lt _ b3)
      rw [← ma_nat] at X
      have M := Lib.hid fun w => rmul_any c.toNat s.toNat w b3 b2
      go_wp2_with fail
      go_region_held3 (fun w' => w'.cell? ⟨b, off + k, none⟩ = some (.int .u8 (d.toNat : Int)) ∧ w'.cell? ⟨b', off' + k, none⟩ = some (.int .u8 (s.toNat : Int)))
        (first | exact HS.out _ hbel2.out.drew | exact HS.out _ (hbel2.out.alloc hB _).drew | exact HS.out _ (own_below (hbel2.out.alloc hB _).drew (hown2.out.alloc _).drew (by simp; omega) hgr1))
        (first | (go_at_call 14; refine (M.out _).mono ?_; rintro e w1 ⟨rfl, rfl⟩) | (refine step_app (by rfl) _ _ _ (by rfl) elem30 w.heap.size (by rfl) ((hown2.out.drew).alloc _) (by rfl) (Rd.new _ 1 [.int .u8 ((ma c d s).toNat : Int)] 5 1 rfl (by decide)) (bcells_one [ma c d s]) (by unfold maxLen; omega) (by omega) (by simp; omega) ?_; intro v1 w1 hown1 hgr1 _))
      go_wp2_with fail
      refine ⟨⟨k + 1, by omega, by go_num, ?_, own_below (hbel2.out.alloc hB _).drew (hown2.out.alloc _).drew (by simp; omega) hgr1⟩, by simp [intOf]; omega⟩
      rw [HT.out]; exact hown1
    · obtain rfl : k = n := by omega
      rw [HE.out] at hown
      go_wp2_with fail
      go_ret2
      exact ⟨_, rfl, hown, hbel⟩
theorem rma_bad (vd vs : Value) (ds ss : List UInt8) (c : UInt8) (w : World) (hd : RdB w vd ds) (hs : RdB w vs ss) (hl : ds.length ≠ ss.length) :
    Calls Try.prog 20 #[vd, vs, .int .u8 (c.toNat : Int)] w fun e w' => e = .returned (.tuple #[.slice none 0 0, .int .i64 1]) ∧ w = w' := by
  obtain ⟨a, cap, rfl, d1, d2, d3, d4⟩ := hd.shape
  obtain ⟨a', cap', rfl, s1, s2, s3, s4⟩ := hs.shape
  have h0 : ((ds.length : Int) != (ss.length : Int)) = true := by rw [bne_iff_ne]; omega
  clear d4 s4 hl
  go_enter Try.func20, Try.ntmps20
  go_wp2_with fail
  go_ret2
  exact ⟨rfl, rfl⟩
theorem ma_bad (vd vs : Value) (ds ss : List UInt8) (c : UInt8) (w : World) (hd : RdB w vd ds) (hs : RdB w vs ss) (hl : ds.length ≠ ss.length) :
    Calls Try.prog 19 #[vd, vs, .int .u8 (c.toNat : Int)] w fun e w' => e = .returned (.tuple #[.slice none 0 0, .int .i64 1]) ∧ w = w' := by
  obtain ⟨a, cap, rfl, d1, d2, d3, d4⟩ := hd.shape
  obtain ⟨a', cap', rfl, s1, s2, s3, s4⟩ := hs.shape
  have h0 : ((ds.length : Int) != (ss.length : Int)) = true := by rw [bne_iff_ne]; omega
  clear d4 s4 hl
  go_enter Try.func19, Try.ntmps19
  go_wp2_with fail
  go_ret2
  exact ⟨rfl, rfl⟩
end Go.Proofs.Ytfiecgijfolfbaa
