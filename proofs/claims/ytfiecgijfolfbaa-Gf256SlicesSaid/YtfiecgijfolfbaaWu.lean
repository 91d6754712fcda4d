/- The walk over gf256.MulAdd where the lengths agree. -/
import Derived.Test.YtfiecgijfolfbaaWs
namespace Go.Proofs.Ytfiecgijfolfbaa
open Go.RowKit

def mix (c : UInt8) (ds ss : List UInt8) (k : Nat) : List UInt8 := (mas c ds ss).take k ++ ds.drop k
theorem mix_zero (c : UInt8) (ds ss : List UInt8) : mix c ds ss 0 = ds := by simp [mix]
theorem mix_all (c : UInt8) (ds ss : List UInt8) (h : ds.length = ss.length) : mix c ds ss ds.length = mas c ds ss := by
  unfold mix
  rw [List.take_of_length_le (Nat.le_of_eq (mas_length c h)), List.drop_length, List.append_nil]
theorem mix_at (c : UInt8) (ds ss : List UInt8) (k : Nat) (h1 : k < ds.length) (h2 : k < ss.length) : (bcells (mix c ds ss k))[k]? = some (.int .u8 ((ds.getD k 0).toNat : Int)) := by
  have hk : k ≤ (mas c ds ss).length := by simp [mas]; omega
  unfold mix
  rw [bcells_append, List.getElem?_append_right (by simp [bcells, hk])]
  simp [bcells, List.length_take, Nat.min_eq_left hk, List.getElem?_drop, List.getElem?_eq_getElem h1]
theorem mix_set (c : UInt8) (ds ss : List UInt8) (k : Nat) (h1 : k < ds.length) (h2 : k < ss.length) :
    (bcells (mix c ds ss k)).set k (.int .u8 ((ma c (ds.getD k 0) (ss.getD k 0)).toNat : Int)) = bcells (mix c ds ss (k + 1)) := by
  have hk : k < (mas c ds ss).length := by simp [mas]; omega
  unfold mix
  rw [bcells_append, List.set_append_right _ _ (by simp [bcells]; omega), bcells_append, mas_take c ds ss k h1 h2, List.append_assoc]
  congr 1
  have hd : ds.drop k = ds[k] :: ds.drop (k + 1) := List.drop_eq_getElem_cons h1
  rw [hd, show bcells (ds[k] :: ds.drop (k + 1)) = .int .u8 (ds[k].toNat : Int) :: bcells (ds.drop (k + 1)) from rfl, show k - (bcells ((mas c ds ss).take k)).length = 0 by simp [bcells]; omega]
  simp
theorem ma_zero (c d s : UInt8) (h : c.toNat = 0 ∨ s.toNat = 0) : ma c d s = d := by
  apply UInt8.toNat_inj.1
  rw [ma_nat]
  rcases h with h | h
  · rw [h, Gf.zero_mul s.toNat_lt, Nat.xor_zero]
  · rw [h, Gf.mul_zero, Nat.xor_zero]
theorem mix_same (c : UInt8) (ds ss : List UInt8) (k : Nat) (h1 : k < ds.length) (h2 : k < ss.length) (h : c.toNat = 0 ∨ (ss.getD k 0).toNat = 0) : bcells (mix c ds ss k) = bcells (mix c ds ss (k + 1)) := by
  rw [← mix_set c ds ss k h1 h2, ma_zero c _ _ h]
  have := mix_at c ds ss k h1 h2
  obtain ⟨h3, h4⟩ := List.getElem?_eq_some_iff.1 this
  rw [← h4]
  exact (List.set_getElem_self h3).symm

theorem pw_sum (c s : UInt8) (h0 : 0 < c.toNat) (h1 : 0 < s.toNat) : Gf.pw (Gf.lg c.toNat + Gf.lg s.toNat) = Gf.mul c.toNat s.toNat :=
  (Gf.mul_lg h0 c.toNat_lt h1 s.toNat_lt).symm
set_option maxRecDepth 100000 in
set_option maxHeartbeats 1000000 in
theorem ma_ok (vd vs : Value) (ds ss : List UInt8) (c : UInt8) (w : World) (hd : RdB w vd ds) (hs : RdB w vs ss) (hl : ds.length = ss.length) (hlt : ds.length < 1000000000) :
    Calls Try.prog 19 #[vd, vs, .int .u8 (c.toNat : Int)] w fun e w' => ∃ v, e = .returned (.tuple #[v, .int .i64 0]) ∧ w'.ownsRow w.heap.size 5 1 v ds.length (bcells (mas c ds ss)) ∧ Below w.heap.size w w' := by
  have HN := Lib.hid (show ∀ k, k < ds.length → _ from fun k hk => mix_at c ds ss k hk (hl ▸ hk))
  have HS := Lib.hid (show ∀ k, k < ds.length → _ from fun k hk => mix_set c ds ss k hk (hl ▸ hk))
  have HZ := Lib.hid (show ∀ k, k < ds.length → _ from fun k hk => mix_same c ds ss k hk (hl ▸ hk))
  have HE := Lib.hid (mix_all c ds ss hl)
  obtain ⟨a, cap, rfl, d1, d2, d3, d4⟩ := hd.shape
  have HD : Rd w 1 (.slice a ds.length cap) ds.length (bcells ds) := hd
  clear hd
  obtain ⟨a', cap', rfl, s1, s2, s3, s4⟩ := hs.shape
  rw [← hl] at *
  clear hl d4 hs
  generalize hn : ds.length = n at *
  have HX := Lib.hid hn
  clear hn
  have z41 := zero41
  have z42 := zero42
  go_enter Try.func19, Try.ntmps19
  go_wp2_with (first | (go_at_call 27; refine (tables_any _).mono ?_; rintro e w1 ⟨rfl, hb⟩) | ((with_reducible refine wpList_store41 ?_ (.tmp 8) (.tmp 20) ?_ ?_ ?_ ?_); rfl; rfl; rfl; rfl) | ((with_reducible refine wpList_store42 ?_ (.tmp 9) (.tmp 21) ?_ ?_ ?_ ?_); rfl; rfl; rfl; rfl) | (at_builtin; refine wpList_app rfl (.const (.slice none 0 0)) (.tmp 22) 30 rfl elem30 (w1.heap.size + 2) rfl (World.ownsRow_nil _ _ _ _) rfl (((HD.below hb).alloc _).alloc _) (bcells_one ds) (by unfold maxLen; omega) (by omega) (by simp) ?_; intro v2 w2 hown hgr hv2; clear hv2))
  simp only [Nat.zero_add, List.nil_append] at hown
  have hB2 : Below (w1.heap.size + 2) ((w1.alloc (.cells ETab 41)).alloc (.cells LTab 42)) w2 := (Below.refl _ _).grown hgr (by simp) (by intro k hk; cases hk)
  have hsz : w.heap.size ≤ w1.heap.size := hb.size
  have hW := Lib.hid (show Below w.heap.size w w2 from ((hb.alloc hsz _).alloc (by simp; omega) _).trans (hB2.mono (by omega)))
  have HEc := Lib.hid (show ∀ j, j < 510 → w2.cell? ⟨w1.heap.size, j, none⟩ = some (.int .u8 (Gf.pw j : Nat)) from fun j hj => by
    rw [hB2.cell (p := ⟨w1.heap.size, j, none⟩) (by simp), cell_of_row _ _ j ETab 41 (0, 0) (heap_pair w1 _ _).1]; exact ETab_at j hj)
  have HLc := Lib.hid (show ∀ j, j < 256 → w2.cell? ⟨w1.heap.size + 1, j, none⟩ = some (.int .i64 (Gf.lg j : Nat)) from fun j hj => by
    rw [hB2.cell (p := ⟨w1.heap.size + 1, j, none⟩) (by simp), cell_of_row _ _ j LTab 42 (0, 0) (heap_pair w1 _ _).2]; exact LTab_at j hj)
  have hsz2 : w1.heap.size + 2 ≤ w2.heap.size := by have := hB2.size; simpa using this
  have Hown := Lib.hid hown
  clear hown hgr hB2 hb z41 z42 HD
  generalize w1.heap.size = b1 at *
  go_loopw [26] (fun i wr => ∃ k : Nat, k ≤ n ∧ i = .int .i64 (k : Int) ∧ wr.ownsRow (b1 + 2) 5 1 v2 n (bcells (mix c ds ss k)) ∧ Below (b1 + 2) w2 wr) (fun i _ => n - (intOf i).toNat)
  case atStart => exact ⟨0, Nat.zero_le _, rfl, by rw [mix_zero]; exact Hown.out, Below.refl _ _⟩
  case round =>
    obtain ⟨k, hk, rfl, hown, hbel⟩ := hrel
    by_cases hlt2 : k < n
    · obtain ⟨b', off', rfl, hc'⟩ := s4 (by omega)
      have g1 := Below.keeps hW.out _ _ (hc' k hlt2)
      have l1 := World.block_lt_of_cell? w _ (hc' k hlt2)
      have e1 : wr.cell? ⟨b', off' + k, none⟩ = some (.int .u8 ((ss.getD k 0).toNat : Int)) := (hbel.cell (p := ⟨b', off' + k, none⟩) (show b' < b1 + 2 by simp at l1; omega)).trans g1
      have hZ := HZ.out k hlt2
      have hS := HS.out k hlt2
      have hN := HN.out k hlt2
      generalize (ds.getD k 0) = d at *
      generalize (ss.getD k 0) = s at *
      clear hc' g1 l1 s4
      by_cases hc0 : c.toNat = 0
      · have t1 : ((c.toNat : Int) != 0) = false := by simp; omega
        rw [hZ (.inl hc0)] at hown
        have Ho := Lib.hid hown
        have Hb := Lib.hid hbel
        clear hc0 hZ hS hN hown hbel
        go_wp2_with fail
        exact ⟨⟨k + 1, by omega, by go_num, Ho.out, Hb.out⟩, by simp [intOf]; omega⟩
      · by_cases hs0 : s.toNat = 0
        · have t1 : ((c.toNat : Int) != 0) = true := by simp; omega
          have t2 : ((s.toNat : Int) != 0) = false := by simp; omega
          rw [hZ (.inr hs0)] at hown
          have Ho := Lib.hid hown
          have Hb := Lib.hid hbel
          clear hc0 hs0 hZ hS hN hown hbel
          go_wp2_with fail
          exact ⟨⟨k + 1, by omega, by go_num, Ho.out, Hb.out⟩, by simp [intOf]; omega⟩
        · have t1 : ((c.toNat : Int) != 0) = true := by simp; omega
          have t2 : ((s.toNat : Int) != 0) = true := by simp; omega
          have e2 : wr.cell? ⟨b1 + 1, c.toNat, none⟩ = _ := (hbel.cell (p := ⟨b1 + 1, c.toNat, none⟩) (show b1 + 1 < b1 + 2 by omega)).trans (HLc.out _ c.toNat_lt)
          have e3 : wr.cell? ⟨b1 + 1, s.toNat, none⟩ = _ := (hbel.cell (p := ⟨b1 + 1, s.toNat, none⟩) (show b1 + 1 < b1 + 2 by omega)).trans (HLc.out _ s.toNat_lt)
          have L1 := Gf.lg_lt c.toNat
          have L2 := Gf.lg_lt s.toNat
          have e4 : wr.cell? ⟨b1, Gf.lg c.toNat + Gf.lg s.toNat, none⟩ = _ := (hbel.cell (p := ⟨b1, Gf.lg c.toNat + Gf.lg s.toNat, none⟩) (show b1 < b1 + 2 by omega)).trans (HEc.out _ (by omega))
          rw [pw_sum c s (by omega) (by omega)] at e4
          have X := u8_xor_nat d.toNat (Gf.mul c.toNat s.toNat) d.toNat_lt (Gf.mul_lt _ c.toNat_lt)
          rw [← ma_nat] at X
          obtain ⟨g, cap2, rfl⟩ : ∃ g cap2, v2 = .slice (some ⟨g, 0, none⟩) n cap2 := by
            rcases hown.2 with ⟨_, h0⟩ | ⟨g, cap2, _, h0, _⟩
            · omega
            · exact ⟨g, cap2, h0⟩
          have hg : b1 + 2 ≤ g := (hown.lt g rfl).1
          have e5 : wr.cell? ⟨g, k, none⟩ = some (.int .u8 (d.toNat : Int)) := by rw [hown.cellAt k (by omega), hN]
          have e6 : wr.frozen? ⟨g, k, none⟩ = false := hown.frozenAt k
          have Hst := Lib.hid (hown.stored k (.int .u8 ((ma c d s).toNat : Int)))
          rw [hS] at Hst
          have Hb := Lib.hid hbel
          have b2 := c.toNat_lt
          have b3 := s.toNat_lt
          have i1 : (c.toNat : Int) < 256 := by omega
          have i2 : (s.toNat : Int) < 256 := by omega
          generalize Gf.lg c.toNat = lc at *
          generalize Gf.lg s.toNat = ls at *
          generalize Gf.mul c.toNat s.toNat = m at *
          have i3 : (lc : Int) + (ls : Int) < 510 := by omega
          have i4 : (k : Int) < (n : Int) := by omega
          have j1 : IntKind.i64.wrap ((lc : Int) + (ls : Int)) = (lc : Int) + (ls : Int) := IntWalk.i64_in _ (by omega)
          have j2 : ((lc : Int) + (ls : Int)).toNat = lc + ls := by omega
          have j3 : 0 ≤ (lc : Int) + (ls : Int) := by omega
          clear hc0 hs0 hZ hS hN hown hbel
          go_wp2_with fail
          refine wp_region_still_tail 15 (by kernel_rfl) (by kernel_rfl) ?_
          simp only [List.take_succ_cons, List.take_zero, List.drop_succ_cons, List.drop_zero]
          change wpStill Try.prog _ wr.drew _ _ _
          repeat still_step
          refine wpStill_nil ?_
          change wpList _ _ _ _ _ wr.drew
          go_wp2_with fail
          exact ⟨⟨k + 1, by omega, by go_num, Hst.out.1.drew, (Hb.out.setCell (p := ⟨g, k, none⟩) hg _).drew⟩, by simp [intOf]; omega⟩
    · obtain rfl : k = n := by omega
      have hE := HE.out
      rw [hE] at hown
      have hF : wr.ownsRow w.heap.size 5 1 v2 k (bcells (mas c ds ss)) := by
        refine ⟨hown.1, ?_⟩
        rcases hown.2 with h0 | ⟨g, cap2, cur, h0, h1, h2⟩
        · exact .inl h0
        · exact .inr ⟨g, cap2, cur, h0, by omega, h2⟩
      have Ho := Lib.hid hF
      have Hb := Lib.hid (hW.out.trans (hbel.mono (by omega)))
      clear hown hbel hE hF
      go_wp2_with fail
      go_ret2
      exact ⟨_, rfl, Ho.out, Hb.out⟩
end Go.Proofs.Ytfiecgijfolfbaa
