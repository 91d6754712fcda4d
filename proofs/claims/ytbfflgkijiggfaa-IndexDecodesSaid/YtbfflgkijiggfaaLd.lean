/- IndexDecodes: the walk. -/
import Derived.Test.YtbfflgkijiggfaaLe
import Derived.Test.YtbfflgkijiggfaaDe
import Derived.Test.YtbfflgkijiggfaaDr
import Derived.Test.YtbfflgkijiggfaaSm
import Derived.Test.YtbfflgkijiggfaaCp
namespace Go.Proofs.Ytbfflgkijiggfaa
open Go.RowKit

/-- Three slices of bytes in the cells of block b. -/
structure Thr (W : World) (b : Nat) (v1 v2 v3 : Value) (l1 l2 l3 : List UInt8) : Prop where
  c1 : W.cell? ⟨b, 0, none⟩ = some v1
  c2 : W.cell? ⟨b, 1, none⟩ = some v2
  c3 : W.cell? ⟨b, 2, none⟩ = some v3
  r1 : RdB W v1 l1
  r2 : RdB W v2 l2
  r3 : RdB W v3 l3
theorem Thr.below {W W' : World} {b : Nat} {v1 v2 v3 : Value} {l1 l2 l3 : List UInt8} (h : Thr W b v1 v2 v3 l1 l2 l3) (hb : Below W.heap.size W W') : Thr W' b v1 v2 v3 l1 l2 l3 :=
  ⟨Below.keeps hb _ _ h.c1, Below.keeps hb _ _ h.c2, Below.keeps hb _ _ h.c3, RdL.below h.r1 hb, RdL.below h.r2 hb, RdL.below h.r3 hb⟩
theorem Thr.at {W : World} {b : Nat} {v1 v2 v3 : Value} {l1 l2 l3 : List UInt8} (h : Thr W b v1 v2 v3 l1 l2 l3) {p : List UInt8 → Prop} (h1 : p l1) (h2 : p l2) (h3 : p l3) {i : Nat} (hi : i < 3) :
    ∃ a n cap L, W.cell? ⟨b, i, none⟩ = some (.slice a n cap) ∧ RdB W (.slice a n cap) L ∧ p L := by
  by_cases e : i = 0
  · subst e
    obtain ⟨a, cap, rfl, _⟩ := h.r1.shape0
    exact ⟨_, _, _, l1, h.c1, h.r1, h1⟩
  · by_cases e2 : i = 1
    · subst e2
      obtain ⟨a, cap, rfl, _⟩ := h.r2.shape0
      exact ⟨_, _, _, l2, h.c2, h.r2, h2⟩
    · obtain rfl : i = 2 := by omega
      obtain ⟨a, cap, rfl, _⟩ := h.r3.shape0
      exact ⟨_, _, _, l3, h.c3, h.r3, h3⟩
def Sml (l : List UInt8) : Prop := l.length ≤ 1000000
theorem wrap_at (a : Int) (L : Nat) (hL : 0 < L) (hs : L ≤ 1000000) : ∃ r : Int, a.tmod (L : Int) = r ∧ -1000000 ≤ r ∧ r ≤ 1000000 ∧ 0 ≤ r + (L : Int) ∧ ∃ k : Nat, k < L ∧ (r + (L : Int)) % (L : Int) = (k : Int) ∧ (r + (L : Int)).tmod (L : Int) = (k : Int) := by
  have h1 := Int.tmod_lt_of_pos a (show (0 : Int) < (L : Int) by omega)
  have h2 := Int.lt_tmod_of_pos a (show (0 : Int) < (L : Int) by omega)
  refine ⟨_, rfl, by omega, by omega, by omega, ((a.tmod (L : Int) + (L : Int)) % (L : Int)).toNat, ?_, ?_, ?_⟩
  · have := Int.emod_lt_of_pos (a.tmod (L : Int) + (L : Int)) (show (0 : Int) < (L : Int) by omega)
    omega
  · have := Int.emod_nonneg (a.tmod (L : Int) + (L : Int)) (show (L : Int) ≠ 0 by omega)
    omega
  · rw [Int.tmod_eq_emod_of_nonneg (by omega)]
    have := Int.emod_nonneg (a.tmod (L : Int) + (L : Int)) (show (L : Int) ≠ 0 by omega)
    omega
set_option maxHeartbeats 4000000 in
theorem ldec_core (v : Value) (l : List It) (ra : Option Addr) (n0 rcap : Nat) (raw0 : List UInt8) (at_ : Int) (cb : UInt8) (fix : Bool) (w : World) (h : RdT w v l) (hw : ∀ x ∈ l, x.Wf) (hr0 : RdB w (.slice ra n0 rcap) raw0) :
    Calls Try.prog 6 #[.slice ra n0 rcap, v, .int .i64 at_, .int .u8 (cb.toNat : Int), .bool fix] w fun e w' => e = .returned (.bool true) ∧ Below w.heap.size w w' := by
  have HM := Lib.hid (made_any v l w h)
  have hmid := mid_mk hw
  have hml : (mk l).length ≤ 40 := mk_length l
  have HEn := Lib.hid (fun v w h => renc_any v (mk l) w h hmid.2 hmid.1 (mk_valid l))
  have hel := encB_length (mk l)
  have hbd := RdL.bounds hr0
  have HR1 := Lib.hid (fun (hgt : 500 < n0) => RdL.take hr0 500 (Nat.le_of_lt hgt))
  have HR2 := Lib.hid (show ¬ 500 < n0 → RdB w (.slice ra n0 rcap) (raw0.take 500) from fun hle => by
    rw [List.take_of_length_le (by omega)]; exact hr0)
  have HTo := Lib.hid (fun (hgt : 500 < n0) => slice_to (P := Try.prog) elemB (a := ra) (n := n0) (cap := rcap) (RdL.spot hr0 (by omega)) 500 (by omega))
  have hlr : (raw0.take 500).length ≤ 500 := by rw [List.length_take]; omega
  generalize raw0.take 500 = raw at *
  obtain ⟨a, cap, rfl, _, _⟩ := h.shape
  generalize mk l = m at *
  generalize encB m = eb at *
  have hle : eb.length ≤ 960 := by omega
  have hl24 : ∃ q, eb.length = 24 * q := ⟨_, hel⟩
  have hmc := hbd.2.2
  have hnc := hbd.2.1
  unfold maxLen at hmc
  clear h hw hr0 hmid hel hbd
  go_enter Try.func6, Try.ntmps6
  by_cases hgt : 500 < n0
  · have HRr := Lib.hid (HR1.out hgt)
    have hto := HTo.out hgt
    rw [show ((500 : Nat) : Int) = 500 from rfl] at hto
    go_wp2_with fail
    refine (HM.out).mono ?_; rintro e w1 ⟨v1, rfl, hown1, hb1⟩
    have HO1 := Lib.hid hown1.rd
    have HB1 := Lib.hid hb1
    clear hown1 hb1
    go_wp2_with fail
    refine (HEn.out _ _ HO1.out).mono ?_; rintro e w2 ⟨v2, rfl, hown2, hb2⟩
    have HB2 := Lib.hid (bstep HB1.out hb2)
    obtain ⟨ga, gc, rfl, hg1, hg2, _⟩ := own_form hown2
    have HO2 := Lib.hid (show w2.ownsRow w1.heap.size 5 1 (.slice ga eb.length gc) eb.length (eb.map byteV) from hown2)
    have hB1 : w.heap.size ≤ w1.heap.size := HB1.out.size
    clear hown2 hb2
    obtain ⟨q, hq⟩ := hl24
    have HQ := Lib.hid hq
    generalize hN : eb.length = N at *
    have HN := Lib.hid hN
    clear hN hq
    by_cases hN0 : N = 0
    · subst hN0
      have HC := Lib.hid (own_rdl HO2.out)
      have HBc := Lib.hid HB2.out
      have hse : eb.length ≤ 960 := by rw [HN.out]; omega
      have hBB : w2.heap.size = w2.heap.size := rfl
      have hwB : w.heap.size ≤ w2.heap.size := Nat.le_trans HBc.out.size (Nat.le_of_eq hBB.symm)
      have HMade := Lib.hid (show ((w2).alloc (.cells #[] 5)).ownsRow w2.heap.size 5 1 (.slice (some ⟨w2.heap.size, 0, none⟩) 0 0) 0 [] by rw [hBB]; exact World.ownsRow_made (e := 5) (size := 1) (w2) #[] 0 (Nat.le_refl _) (by decide) rfl)
      have HAl := Lib.hid (show Below w2.heap.size (w2) ((w2).alloc (.cells #[] 5)) from (Below.refl _ _).alloc (Nat.le_of_eq hBB) _)
      have hBs : w2.heap.size ≤ ((w2).alloc (.cells #[] 5)).heap.size := Nat.le_trans (Nat.le_of_eq hBB) (by simp)
      have HBB := Lib.hid hBB
      clear hBB
      go_wp2_with (first | (at_builtin; refine wpList_app rfl (.tmp 66) (.tmp 67) 27 rfl elemB (w2.heap.size) rfl HMade.out rfl (HC.out.alloc _) (bytes_one _) (by unfold maxLen; omega) (by omega) hBs ?_; intro v7 w7 hown7 hgr7 hv7; clear hv7; have HW7 := Lib.hid (own_below HAl.out HMade.out hBs hgr7); have HX7 := Lib.hid (HBc.out.trans (HW7.out.mono hwB)); rw [Nat.zero_add] at hown7; have HO7 := Lib.hid hown7; have hB7 : w2.heap.size ≤ w7.heap.size := Nat.le_trans hBs hgr7.size; clear hown7 hgr7) | (at_builtin; refine wpList_app rfl (.tmp 68) (.tmp 69) 27 rfl elemB (w2.heap.size) rfl HO7.out rfl (RdL.below HRr.out HX7.out) (bytes_one _) (by unfold maxLen; omega) (by omega) hB7 ?_; intro v8 w8 hown8 hgr8 hv8; clear hv8; obtain ⟨a8, c8, rfl, _, _, _⟩ := own_form hown8; have HW8 := Lib.hid (HW7.out.trans (own_below (Below.refl w2.heap.size w7) HO7.out hB7 hgr8)); have HX8 := Lib.hid (HBc.out.trans (HW8.out.mono hwB)); have HO8 := Lib.hid hown8; clear hown8 hgr8))
      have bA := (Below.refl w8.heap.size w8).alloc (Nat.le_refl _) (.cells #[.slice ra 500 rcap, .slice ga 0 gc, .slice a8 (eb.length + raw.length) c8] 27)
      have HT := Lib.hid (show Thr (w8.alloc (.cells #[.slice ra 500 rcap, .slice ga 0 gc, .slice a8 (eb.length + raw.length) c8] 27)) w8.heap.size (.slice ra 500 rcap) (.slice ga 0 gc) (.slice a8 (eb.length + raw.length) c8) raw (eb) (eb ++ raw) from
        ⟨by simp, by simp, by simp, RdL.below (RdL.below HRr.out HX8.out) bA, RdL.below (RdL.below HC.out (show Below (w2).heap.size (w2) w8 by first | exact HW8.out | (rw [← HBB.out]; exact HW8.out))) bA, RdL.below (own_rdl (l := eb ++ raw) (by simpa using HO8.out)) bA⟩)
      have HBf := Lib.hid (bup HX8.out HX8.out.size bA)
      have HSm := Lib.hid (show Sml raw ∧ Sml (eb) ∧ Sml (eb ++ raw) from ⟨by unfold Sml; omega, by unfold Sml; omega, by unfold Sml; rw [List.length_append]; omega⟩)
      obtain ⟨W9, hW9⟩ : ∃ W9, W9 = w8.alloc (.cells #[.slice ra 500 rcap, .slice ga 0 gc, .slice a8 (eb.length + raw.length) c8] 27) := ⟨_, rfl⟩
      rw [← hW9] at HT HBf ⊢
      clear hW9 bA HO8 HW8 HX8 HO7 HW7 HX7 HC HBc HMade HAl
      go_loopw [73] (fun iv wr => ∃ i : Nat, iv = .int .i64 (i : Int) ∧ i ≤ 3 ∧ Below W9.heap.size W9 wr) (fun iv _ => 3 - (intOf iv).toNat)
      case atStart => exact ⟨0, rfl, by omega, Below.refl _ _⟩
      case round =>
        obtain ⟨i, rfl, hi, hb⟩ := hrel
        have Hb := Lib.hid hb
        clear hb
        by_cases hlt : i < 3
        · obtain ⟨ka, kn, kc, L, e1, hrL, hsm⟩ := (HT.out.below Hb.out).at (p := Sml) HSm.out.1 HSm.out.2.1 HSm.out.2.2 hlt
          have HrL := Lib.hid hrL
          have HD1 := Lib.hid (fun v w h => dec_any v L w h hsm)
          have HD2 := Lib.hid (fun v w h => rdec_any v L w h hsm)
          generalize dec L = D at *
          have HSa := Lib.hid (fun va vb w h1 h2 => same_any va vb D.2 D.2 w h1 h2)
          have hdd : decide (D.2 = D.2) = true := decide_eq_true rfl
          rw [hdd] at HSa
          clear hrL hsm hdd
          go_wp2_with fail
          refine (HD1.out _ _ HrL.out).mono ?_; rintro e w3 ⟨⟨v3, rfl, hown3⟩, hb3⟩
          have HR3 := Lib.hid (RdL.below HrL.out hb3)
          have HO3 := Lib.hid hown3.rd
          have HB3 := Lib.hid (bstep Hb.out hb3)
          clear hown3 hb3
          go_wp2_with fail
          refine (HD2.out _ _ HR3.out).mono ?_; rintro e w4 ⟨⟨v4, rfl, hown4⟩, hb4⟩
          have HO4 := Lib.hid hown4.rd
          have HO34 := Lib.hid (HO3.out.below hb4)
          have HB4 := Lib.hid (bstep HB3.out hb4)
          have hee : (D.1 != D.1) = false := by simp
          clear hown4 hb4
          go_wp2_with fail
          refine (HSa.out _ _ _ HO34.out HO4.out).mono ?_; rintro e w5 ⟨rfl, hb5⟩
          have HB5 := Lib.hid (bstep HB4.out hb5)
          clear hb5
          go_wp2_with fail
          exact ⟨⟨i + 1, by go_num, by omega, HB5.out⟩, by simp [intOf]; omega⟩
        · obtain rfl : i = 3 := by omega
          go_wp2_with fail
          refine (awake_any _).mono ?_; rintro e w6 ⟨rfl, hb6⟩
          have HB6 := Lib.hid (bup HBf.out HBf.out.size (bstep Hb.out hb6))
          clear hb6
          go_wp2_with fail
          go_ret
          exact ⟨rfl, HB6.out⟩
    · obtain ⟨r, hr, hr1, hr2, hr3, k, hk, hk1, hk2⟩ := wrap_at at_ N (by omega) (by omega)
      have hk3 : r % (N : Int) = (k : Int) := by rw [← hk1]; simp
      have hpos : decide ((0 : Int) < (N : Int)) = true := by simp; omega
      obtain ⟨g, rfl⟩ : ∃ g, ga = some ⟨g, 0, none⟩ := by
        rcases HO2.out.2 with ⟨e, h0⟩ | ⟨g, _, _, e, _⟩
        · omega
        · injection e with e; exact ⟨g, e⟩
      have hgB := (HO2.out.lt g rfl).1
      have ck0 := HO2.out.cellAt k (by omega)
      have fk0 := HO2.out.frozenAt k
      obtain ⟨hst, hgr⟩ := HO2.out.stored k (.int .u8 (cb.toNat : Int))
      rw [show (Value.int .u8 (cb.toNat : Int)) = byteV cb from rfl, ← List.map_set] at hst
      have ck1 : (eb.map byteV)[k]? = some (.int .u8 ((bat eb k).toNat : Int)) := by
        rw [List.getElem?_map]
        unfold bat
        rw [List.getD_eq_getElem?_getD, List.getElem?_eq_getElem (by rw [HN.out]; exact hk)]; rfl
      rw [ck1] at ck0
      have HO3 := Lib.hid (show (w2.setCell ⟨g, k, none⟩ (.int .u8 (cb.toNat : Int))).ownsRow w1.heap.size 5 1 (.slice (some ⟨g, 0, none⟩) N gc) N ((eb.set k cb).map byteV) from hst)
      have HB3 := Lib.hid (HB2.out.grown hgr (Nat.le_trans hB1 (Nat.le_trans hgB (Nat.le_of_lt (HO2.out.lt g rfl).2))) (by intro x hx; injection hx with hx; omega))
      have HL3 := Lib.hid (show (eb.set k cb).length = N by rw [List.length_set]; exact HN.out)
      clear hst hgr ck1 hk1 hk2
      generalize eb.set k cb = e3 at *
      generalize bat eb k = old at *
      obtain ⟨fr, hfr, hfr2⟩ : ∃ fr : Nat, k / 24 * 24 = fr ∧ fr + 24 ≤ N := ⟨k / 24 * 24, rfl, by have := HQ.out; omega⟩
      have hfi : (k : Int) / 24 * 24 = (fr : Int) := by omega
      clear hfr
      cases fix
      · have HC := Lib.hid (own_rdl HO3.out)
        have HBc := HB3
        have hse : e3.length ≤ 960 := by rw [HL3.out]; omega
        have hBB : w2.heap.size = (w2.setCell ⟨g, k, none⟩ (.int .u8 (cb.toNat : Int))).heap.size := by simp
        have hwB : w.heap.size ≤ w2.heap.size := Nat.le_trans HBc.out.size (Nat.le_of_eq hBB.symm)
        have HMade := Lib.hid (show ((w2.setCell ⟨g, k, none⟩ (.int .u8 (cb.toNat : Int))).alloc (.cells #[] 5)).ownsRow w2.heap.size 5 1 (.slice (some ⟨w2.heap.size, 0, none⟩) 0 0) 0 [] by rw [hBB]; exact World.ownsRow_made (e := 5) (size := 1) (w2.setCell ⟨g, k, none⟩ (.int .u8 (cb.toNat : Int))) #[] 0 (Nat.le_refl _) (by decide) rfl)
        have HAl := Lib.hid (show Below w2.heap.size (w2.setCell ⟨g, k, none⟩ (.int .u8 (cb.toNat : Int))) ((w2.setCell ⟨g, k, none⟩ (.int .u8 (cb.toNat : Int))).alloc (.cells #[] 5)) from (Below.refl _ _).alloc (Nat.le_of_eq hBB) _)
        have hBs : w2.heap.size ≤ ((w2.setCell ⟨g, k, none⟩ (.int .u8 (cb.toNat : Int))).alloc (.cells #[] 5)).heap.size := Nat.le_trans (Nat.le_of_eq hBB) (by simp)
        have HBB := Lib.hid hBB
        clear hBB
        go_wp2_with (first | (at_builtin; refine wpList_app rfl (.tmp 66) (.tmp 67) 27 rfl elemB (w2.heap.size) rfl HMade.out rfl (HC.out.alloc _) (bytes_one _) (by unfold maxLen; omega) (by omega) hBs ?_; intro v7 w7 hown7 hgr7 hv7; clear hv7; have HW7 := Lib.hid (own_below HAl.out HMade.out hBs hgr7); have HX7 := Lib.hid (HBc.out.trans (HW7.out.mono hwB)); rw [Nat.zero_add] at hown7; have HO7 := Lib.hid hown7; have hB7 : w2.heap.size ≤ w7.heap.size := Nat.le_trans hBs hgr7.size; clear hown7 hgr7) | (at_builtin; refine wpList_app rfl (.tmp 68) (.tmp 69) 27 rfl elemB (w2.heap.size) rfl HO7.out rfl (RdL.below HRr.out HX7.out) (bytes_one _) (by unfold maxLen; omega) (by omega) hB7 ?_; intro v8 w8 hown8 hgr8 hv8; clear hv8; obtain ⟨a8, c8, rfl, _, _, _⟩ := own_form hown8; have HW8 := Lib.hid (HW7.out.trans (own_below (Below.refl w2.heap.size w7) HO7.out hB7 hgr8)); have HX8 := Lib.hid (HBc.out.trans (HW8.out.mono hwB)); have HO8 := Lib.hid hown8; clear hown8 hgr8))
        have bA := (Below.refl w8.heap.size w8).alloc (Nat.le_refl _) (.cells #[.slice ra 500 rcap, .slice (some ⟨g, 0, none⟩) N gc, .slice a8 (e3.length + raw.length) c8] 27)
        have HT := Lib.hid (show Thr (w8.alloc (.cells #[.slice ra 500 rcap, .slice (some ⟨g, 0, none⟩) N gc, .slice a8 (e3.length + raw.length) c8] 27)) w8.heap.size (.slice ra 500 rcap) (.slice (some ⟨g, 0, none⟩) N gc) (.slice a8 (e3.length + raw.length) c8) raw (e3) (e3 ++ raw) from
          ⟨by simp, by simp, by simp, RdL.below (RdL.below HRr.out HX8.out) bA, RdL.below (RdL.below HC.out (show Below (w2.setCell ⟨g, k, none⟩ (.int .u8 (cb.toNat : Int))).heap.size (w2.setCell ⟨g, k, none⟩ (.int .u8 (cb.toNat : Int))) w8 by first | exact HW8.out | (rw [← HBB.out]; exact HW8.out))) bA, RdL.below (own_rdl (l := e3 ++ raw) (by simpa using HO8.out)) bA⟩)
        have HBf := Lib.hid (bup HX8.out HX8.out.size bA)
        have HSm := Lib.hid (show Sml raw ∧ Sml (e3) ∧ Sml (e3 ++ raw) from ⟨by unfold Sml; omega, by unfold Sml; omega, by unfold Sml; rw [List.length_append]; omega⟩)
        obtain ⟨W9, hW9⟩ : ∃ W9, W9 = w8.alloc (.cells #[.slice ra 500 rcap, .slice (some ⟨g, 0, none⟩) N gc, .slice a8 (e3.length + raw.length) c8] 27) := ⟨_, rfl⟩
        rw [← hW9] at HT HBf ⊢
        clear hW9 bA HO8 HW8 HX8 HO7 HW7 HX7 HC HBc HMade HAl
        go_loopw [73] (fun iv wr => ∃ i : Nat, iv = .int .i64 (i : Int) ∧ i ≤ 3 ∧ Below W9.heap.size W9 wr) (fun iv _ => 3 - (intOf iv).toNat)
        case atStart => exact ⟨0, rfl, by omega, Below.refl _ _⟩
        case round =>
          obtain ⟨i, rfl, hi, hb⟩ := hrel
          have Hb := Lib.hid hb
          clear hb
          by_cases hlt : i < 3
          · obtain ⟨ka, kn, kc, L, e1, hrL, hsm⟩ := (HT.out.below Hb.out).at (p := Sml) HSm.out.1 HSm.out.2.1 HSm.out.2.2 hlt
            have HrL := Lib.hid hrL
            have HD1 := Lib.hid (fun v w h => dec_any v L w h hsm)
            have HD2 := Lib.hid (fun v w h => rdec_any v L w h hsm)
            generalize dec L = D at *
            have HSa := Lib.hid (fun va vb w h1 h2 => same_any va vb D.2 D.2 w h1 h2)
            have hdd : decide (D.2 = D.2) = true := decide_eq_true rfl
            rw [hdd] at HSa
            clear hrL hsm hdd
            go_wp2_with fail
            refine (HD1.out _ _ HrL.out).mono ?_; rintro e w3 ⟨⟨v3, rfl, hown3⟩, hb3⟩
            have HR3 := Lib.hid (RdL.below HrL.out hb3)
            have HO3 := Lib.hid hown3.rd
            have HB3 := Lib.hid (bstep Hb.out hb3)
            clear hown3 hb3
            go_wp2_with fail
            refine (HD2.out _ _ HR3.out).mono ?_; rintro e w4 ⟨⟨v4, rfl, hown4⟩, hb4⟩
            have HO4 := Lib.hid hown4.rd
            have HO34 := Lib.hid (HO3.out.below hb4)
            have HB4 := Lib.hid (bstep HB3.out hb4)
            have hee : (D.1 != D.1) = false := by simp
            clear hown4 hb4
            go_wp2_with fail
            refine (HSa.out _ _ _ HO34.out HO4.out).mono ?_; rintro e w5 ⟨rfl, hb5⟩
            have HB5 := Lib.hid (bstep HB4.out hb5)
            clear hb5
            go_wp2_with fail
            exact ⟨⟨i + 1, by go_num, by omega, HB5.out⟩, by simp [intOf]; omega⟩
          · obtain rfl : i = 3 := by omega
            go_wp2_with fail
            refine (awake_any _).mono ?_; rintro e w6 ⟨rfl, hb6⟩
            have HB6 := Lib.hid (bup HBf.out HBf.out.size (bstep Hb.out hb6))
            clear hb6
            go_wp2_with fail
            go_ret
            exact ⟨rfl, HB6.out⟩
      · obtain ⟨W3, hW3⟩ : ∃ W3, W3 = w2.setCell ⟨g, k, none⟩ (.int .u8 (cb.toNat : Int)) := ⟨_, rfl⟩
        rw [← hW3] at HO3 HB3
        have HW3 := Lib.hid hW3
        clear hW3
        have hrd3 : RdB W3 (.slice (some ⟨g, 0, none⟩) N gc) e3 := own_rdl HO3.out
        obtain ⟨x1, y1, g1, r1⟩ := RdL.part (P := Try.prog) elemB hrd3 fr (fr + 20) (by omega) (by omega)
        have HCk := Lib.hid (fun W h => rcheck_any (.slice x1 (fr + 20 - fr) y1) _ W (RdL.below r1 h))
        rw [show fr + 20 - fr = 20 by omega] at HCk
        simp only [show fr + 20 - fr = 20 by omega, Int.natCast_add] at g1
        rw [show ((20 : Nat) : Int) = 20 from rfl] at g1
        have HCp := Lib.hid (fun (W : World) (hown : W.ownsRow w1.heap.size 5 1 (.slice (some ⟨g, 0, none⟩) N gc) N (e3.map byteV)) sa sc s (hs : RdB W (.slice sa 4 sc) s) dl dc (hd : 4 ≤ dl) => copy_own hown hs (fr + 20) dl dc (by omega) hd (by omega))
        have j1 : IntKind.i64.wrap ((fr : Int) + 20) = (fr : Int) + 20 := IntWalk.i64_in _ (by omega)
        have j2 : (0 : Int) ≤ (fr : Int) + 20 := by omega
        have j3 : (fr : Int) + 20 ≤ (N : Int) := by omega
        have j4 : ((fr : Int) + 20).toNat = fr + 20 := by omega
        clear hrd3 r1
        go_wp2_with fail
        rw [← HW3.out]
        go_region_held3 (fun _ => True) (trivial)
          ((go_at_call 20; (refine (HCk.out _ (Below.refl _ _).drew).mono ?_); rintro e w4 ⟨v4, rfl, hown4, hb4⟩; obtain ⟨a4, c4, rfl, _, _, _⟩ := own_form (show w4.ownsRow _ 5 1 v4 4 _ from hown4); obtain ⟨w5, hcp, hown5, hgr5⟩ := HCp.out w4 (own_keep HO3.out (bstep (Below.refl _ _).drew hb4)) a4 c4 _ hown4.rd (N - (fr + 20)) (gc - (fr + 20)) (by omega)))
        have HB4 := Lib.hid (bup HB3.out HB3.out.size (bstep (Below.refl W3.heap.size W3).drew hb4))
        have HBc := Lib.hid (HB4.out.grown hgr5 HB4.out.size (by intro x hx; injection hx with hx; omega))
        have HC := Lib.hid (own_rdl hown5)
        have hse : (e3.take (fr + 20) ++ ck ((e3.drop fr).take 20) ++ e3.drop (fr + 20 + 4)).length ≤ 960 := by
          rw [List.length_append, List.length_append, List.length_take, List.length_drop, HL3.out, show (ck ((e3.drop fr).take 20)).length = 4 from rfl]; omega
        generalize e3.take (fr + 20) ++ ck ((e3.drop fr).take 20) ++ e3.drop (fr + 20 + 4) = e5 at *
        clear hcp hown4 hown5 hb4 hgr5 g1 j1 j2 j3 j4
        have hBB : w5.heap.size = w5.heap.size := rfl
        have hwB : w.heap.size ≤ w5.heap.size := Nat.le_trans HBc.out.size (Nat.le_of_eq hBB.symm)
        have HMade := Lib.hid (show ((w5).alloc (.cells #[] 5)).ownsRow w5.heap.size 5 1 (.slice (some ⟨w5.heap.size, 0, none⟩) 0 0) 0 [] by rw [hBB]; exact World.ownsRow_made (e := 5) (size := 1) (w5) #[] 0 (Nat.le_refl _) (by decide) rfl)
        have HAl := Lib.hid (show Below w5.heap.size (w5) ((w5).alloc (.cells #[] 5)) from (Below.refl _ _).alloc (Nat.le_of_eq hBB) _)
        have hBs : w5.heap.size ≤ ((w5).alloc (.cells #[] 5)).heap.size := Nat.le_trans (Nat.le_of_eq hBB) (by simp)
        have HBB := Lib.hid hBB
        clear hBB
        go_wp2_with (first | (at_builtin; refine wpList_app rfl (.tmp 66) (.tmp 67) 27 rfl elemB (w5.heap.size) rfl HMade.out rfl (HC.out.alloc _) (bytes_one _) (by unfold maxLen; omega) (by omega) hBs ?_; intro v7 w7 hown7 hgr7 hv7; clear hv7; have HW7 := Lib.hid (own_below HAl.out HMade.out hBs hgr7); have HX7 := Lib.hid (HBc.out.trans (HW7.out.mono hwB)); rw [Nat.zero_add] at hown7; have HO7 := Lib.hid hown7; have hB7 : w5.heap.size ≤ w7.heap.size := Nat.le_trans hBs hgr7.size; clear hown7 hgr7) | (at_builtin; refine wpList_app rfl (.tmp 68) (.tmp 69) 27 rfl elemB (w5.heap.size) rfl HO7.out rfl (RdL.below HRr.out HX7.out) (bytes_one _) (by unfold maxLen; omega) (by omega) hB7 ?_; intro v8 w8 hown8 hgr8 hv8; clear hv8; obtain ⟨a8, c8, rfl, _, _, _⟩ := own_form hown8; have HW8 := Lib.hid (HW7.out.trans (own_below (Below.refl w5.heap.size w7) HO7.out hB7 hgr8)); have HX8 := Lib.hid (HBc.out.trans (HW8.out.mono hwB)); have HO8 := Lib.hid hown8; clear hown8 hgr8))
        have bA := (Below.refl w8.heap.size w8).alloc (Nat.le_refl _) (.cells #[.slice ra 500 rcap, .slice (some ⟨g, 0, none⟩) N gc, .slice a8 (e5.length + raw.length) c8] 27)
        have HT := Lib.hid (show Thr (w8.alloc (.cells #[.slice ra 500 rcap, .slice (some ⟨g, 0, none⟩) N gc, .slice a8 (e5.length + raw.length) c8] 27)) w8.heap.size (.slice ra 500 rcap) (.slice (some ⟨g, 0, none⟩) N gc) (.slice a8 (e5.length + raw.length) c8) raw (e5) (e5 ++ raw) from
          ⟨by simp, by simp, by simp, RdL.below (RdL.below HRr.out HX8.out) bA, RdL.below (RdL.below HC.out (show Below (w5).heap.size (w5) w8 by first | exact HW8.out | (rw [← HBB.out]; exact HW8.out))) bA, RdL.below (own_rdl (l := e5 ++ raw) (by simpa using HO8.out)) bA⟩)
        have HBf := Lib.hid (bup HX8.out HX8.out.size bA)
        have HSm := Lib.hid (show Sml raw ∧ Sml (e5) ∧ Sml (e5 ++ raw) from ⟨by unfold Sml; omega, by unfold Sml; omega, by unfold Sml; rw [List.length_append]; omega⟩)
        obtain ⟨W9, hW9⟩ : ∃ W9, W9 = w8.alloc (.cells #[.slice ra 500 rcap, .slice (some ⟨g, 0, none⟩) N gc, .slice a8 (e5.length + raw.length) c8] 27) := ⟨_, rfl⟩
        rw [← hW9] at HT HBf ⊢
        clear hW9 bA HO8 HW8 HX8 HO7 HW7 HX7 HC HBc HMade HAl
        go_loopw [73] (fun iv wr => ∃ i : Nat, iv = .int .i64 (i : Int) ∧ i ≤ 3 ∧ Below W9.heap.size W9 wr) (fun iv _ => 3 - (intOf iv).toNat)
        case atStart => exact ⟨0, rfl, by omega, Below.refl _ _⟩
        case round =>
          obtain ⟨i, rfl, hi, hb⟩ := hrel
          have Hb := Lib.hid hb
          clear hb
          by_cases hlt : i < 3
          · obtain ⟨ka, kn, kc, L, e1, hrL, hsm⟩ := (HT.out.below Hb.out).at (p := Sml) HSm.out.1 HSm.out.2.1 HSm.out.2.2 hlt
            have HrL := Lib.hid hrL
            have HD1 := Lib.hid (fun v w h => dec_any v L w h hsm)
            have HD2 := Lib.hid (fun v w h => rdec_any v L w h hsm)
            generalize dec L = D at *
            have HSa := Lib.hid (fun va vb w h1 h2 => same_any va vb D.2 D.2 w h1 h2)
            have hdd : decide (D.2 = D.2) = true := decide_eq_true rfl
            rw [hdd] at HSa
            clear hrL hsm hdd
            go_wp2_with fail
            refine (HD1.out _ _ HrL.out).mono ?_; rintro e w3 ⟨⟨v3, rfl, hown3⟩, hb3⟩
            have HR3 := Lib.hid (RdL.below HrL.out hb3)
            have HO3 := Lib.hid hown3.rd
            have HB3 := Lib.hid (bstep Hb.out hb3)
            clear hown3 hb3
            go_wp2_with fail
            refine (HD2.out _ _ HR3.out).mono ?_; rintro e w4 ⟨⟨v4, rfl, hown4⟩, hb4⟩
            have HO4 := Lib.hid hown4.rd
            have HO34 := Lib.hid (HO3.out.below hb4)
            have HB4 := Lib.hid (bstep HB3.out hb4)
            have hee : (D.1 != D.1) = false := by simp
            clear hown4 hb4
            go_wp2_with fail
            refine (HSa.out _ _ _ HO34.out HO4.out).mono ?_; rintro e w5 ⟨rfl, hb5⟩
            have HB5 := Lib.hid (bstep HB4.out hb5)
            clear hb5
            go_wp2_with fail
            exact ⟨⟨i + 1, by go_num, by omega, HB5.out⟩, by simp [intOf]; omega⟩
          · obtain rfl : i = 3 := by omega
            go_wp2_with fail
            refine (awake_any _).mono ?_; rintro e w6 ⟨rfl, hb6⟩
            have HB6 := Lib.hid (bup HBf.out HBf.out.size (bstep Hb.out hb6))
            clear hb6
            go_wp2_with fail
            go_ret
            exact ⟨rfl, HB6.out⟩
  · have HRr := Lib.hid (HR2.out hgt)
    go_wp2_with fail
    refine (HM.out).mono ?_; rintro e w1 ⟨v1, rfl, hown1, hb1⟩
    have HO1 := Lib.hid hown1.rd
    have HB1 := Lib.hid hb1
    clear hown1 hb1
    go_wp2_with fail
    refine (HEn.out _ _ HO1.out).mono ?_; rintro e w2 ⟨v2, rfl, hown2, hb2⟩
    have HB2 := Lib.hid (bstep HB1.out hb2)
    obtain ⟨ga, gc, rfl, hg1, hg2, _⟩ := own_form hown2
    have HO2 := Lib.hid (show w2.ownsRow w1.heap.size 5 1 (.slice ga eb.length gc) eb.length (eb.map byteV) from hown2)
    have hB1 : w.heap.size ≤ w1.heap.size := HB1.out.size
    clear hown2 hb2
    obtain ⟨q, hq⟩ := hl24
    have HQ := Lib.hid hq
    generalize hN : eb.length = N at *
    have HN := Lib.hid hN
    clear hN hq
    by_cases hN0 : N = 0
    · subst hN0
      have HC := Lib.hid (own_rdl HO2.out)
      have HBc := Lib.hid HB2.out
      have hse : eb.length ≤ 960 := by rw [HN.out]; omega
      have hBB : w2.heap.size = w2.heap.size := rfl
      have hwB : w.heap.size ≤ w2.heap.size := Nat.le_trans HBc.out.size (Nat.le_of_eq hBB.symm)
      have HMade := Lib.hid (show ((w2).alloc (.cells #[] 5)).ownsRow w2.heap.size 5 1 (.slice (some ⟨w2.heap.size, 0, none⟩) 0 0) 0 [] by rw [hBB]; exact World.ownsRow_made (e := 5) (size := 1) (w2) #[] 0 (Nat.le_refl _) (by decide) rfl)
      have HAl := Lib.hid (show Below w2.heap.size (w2) ((w2).alloc (.cells #[] 5)) from (Below.refl _ _).alloc (Nat.le_of_eq hBB) _)
      have hBs : w2.heap.size ≤ ((w2).alloc (.cells #[] 5)).heap.size := Nat.le_trans (Nat.le_of_eq hBB) (by simp)
      have HBB := Lib.hid hBB
      clear hBB
      go_wp2_with (first | (at_builtin; refine wpList_app rfl (.tmp 66) (.tmp 67) 27 rfl elemB (w2.heap.size) rfl HMade.out rfl (HC.out.alloc _) (bytes_one _) (by unfold maxLen; omega) (by omega) hBs ?_; intro v7 w7 hown7 hgr7 hv7; clear hv7; have HW7 := Lib.hid (own_below HAl.out HMade.out hBs hgr7); have HX7 := Lib.hid (HBc.out.trans (HW7.out.mono hwB)); rw [Nat.zero_add] at hown7; have HO7 := Lib.hid hown7; have hB7 : w2.heap.size ≤ w7.heap.size := Nat.le_trans hBs hgr7.size; clear hown7 hgr7) | (at_builtin; refine wpList_app rfl (.tmp 68) (.tmp 69) 27 rfl elemB (w2.heap.size) rfl HO7.out rfl (RdL.below HRr.out HX7.out) (bytes_one _) (by unfold maxLen; omega) (by omega) hB7 ?_; intro v8 w8 hown8 hgr8 hv8; clear hv8; obtain ⟨a8, c8, rfl, _, _, _⟩ := own_form hown8; have HW8 := Lib.hid (HW7.out.trans (own_below (Below.refl w2.heap.size w7) HO7.out hB7 hgr8)); have HX8 := Lib.hid (HBc.out.trans (HW8.out.mono hwB)); have HO8 := Lib.hid hown8; clear hown8 hgr8))
      have bA := (Below.refl w8.heap.size w8).alloc (Nat.le_refl _) (.cells #[.slice ra n0 rcap, .slice ga 0 gc, .slice a8 (eb.length + raw.length) c8] 27)
      have HT := Lib.hid (show Thr (w8.alloc (.cells #[.slice ra n0 rcap, .slice ga 0 gc, .slice a8 (eb.length + raw.length) c8] 27)) w8.heap.size (.slice ra n0 rcap) (.slice ga 0 gc) (.slice a8 (eb.length + raw.length) c8) raw (eb) (eb ++ raw) from
        ⟨by simp, by simp, by simp, RdL.below (RdL.below HRr.out HX8.out) bA, RdL.below (RdL.below HC.out (show Below (w2).heap.size (w2) w8 by first | exact HW8.out | (rw [← HBB.out]; exact HW8.out))) bA, RdL.below (own_rdl (l := eb ++ raw) (by simpa using HO8.out)) bA⟩)
      have HBf := Lib.hid (bup HX8.out HX8.out.size bA)
      have HSm := Lib.hid (show Sml raw ∧ Sml (eb) ∧ Sml (eb ++ raw) from ⟨by unfold Sml; omega, by unfold Sml; omega, by unfold Sml; rw [List.length_append]; omega⟩)
      obtain ⟨W9, hW9⟩ : ∃ W9, W9 = w8.alloc (.cells #[.slice ra n0 rcap, .slice ga 0 gc, .slice a8 (eb.length + raw.length) c8] 27) := ⟨_, rfl⟩
      rw [← hW9] at HT HBf ⊢
      clear hW9 bA HO8 HW8 HX8 HO7 HW7 HX7 HC HBc HMade HAl
      go_loopw [73] (fun iv wr => ∃ i : Nat, iv = .int .i64 (i : Int) ∧ i ≤ 3 ∧ Below W9.heap.size W9 wr) (fun iv _ => 3 - (intOf iv).toNat)
      case atStart => exact ⟨0, rfl, by omega, Below.refl _ _⟩
      case round =>
        obtain ⟨i, rfl, hi, hb⟩ := hrel
        have Hb := Lib.hid hb
        clear hb
        by_cases hlt : i < 3
        · obtain ⟨ka, kn, kc, L, e1, hrL, hsm⟩ := (HT.out.below Hb.out).at (p := Sml) HSm.out.1 HSm.out.2.1 HSm.out.2.2 hlt
          have HrL := Lib.hid hrL
          have HD1 := Lib.hid (fun v w h => dec_any v L w h hsm)
          have HD2 := Lib.hid (fun v w h => rdec_any v L w h hsm)
          generalize dec L = D at *
          have HSa := Lib.hid (fun va vb w h1 h2 => same_any va vb D.2 D.2 w h1 h2)
          have hdd : decide (D.2 = D.2) = true := decide_eq_true rfl
          rw [hdd] at HSa
          clear hrL hsm hdd
          go_wp2_with fail
          refine (HD1.out _ _ HrL.out).mono ?_; rintro e w3 ⟨⟨v3, rfl, hown3⟩, hb3⟩
          have HR3 := Lib.hid (RdL.below HrL.out hb3)
          have HO3 := Lib.hid hown3.rd
          have HB3 := Lib.hid (bstep Hb.out hb3)
          clear hown3 hb3
          go_wp2_with fail
          refine (HD2.out _ _ HR3.out).mono ?_; rintro e w4 ⟨⟨v4, rfl, hown4⟩, hb4⟩
          have HO4 := Lib.hid hown4.rd
          have HO34 := Lib.hid (HO3.out.below hb4)
          have HB4 := Lib.hid (bstep HB3.out hb4)
          have hee : (D.1 != D.1) = false := by simp
          clear hown4 hb4
          go_wp2_with fail
          refine (HSa.out _ _ _ HO34.out HO4.out).mono ?_; rintro e w5 ⟨rfl, hb5⟩
          have HB5 := Lib.hid (bstep HB4.out hb5)
          clear hb5
          go_wp2_with fail
          exact ⟨⟨i + 1, by go_num, by omega, HB5.out⟩, by simp [intOf]; omega⟩
        · obtain rfl : i = 3 := by omega
          go_wp2_with fail
          refine (awake_any _).mono ?_; rintro e w6 ⟨rfl, hb6⟩
          have HB6 := Lib.hid (bup HBf.out HBf.out.size (bstep Hb.out hb6))
          clear hb6
          go_wp2_with fail
          go_ret
          exact ⟨rfl, HB6.out⟩
    · obtain ⟨r, hr, hr1, hr2, hr3, k, hk, hk1, hk2⟩ := wrap_at at_ N (by omega) (by omega)
      have hk3 : r % (N : Int) = (k : Int) := by rw [← hk1]; simp
      have hpos : decide ((0 : Int) < (N : Int)) = true := by simp; omega
      obtain ⟨g, rfl⟩ : ∃ g, ga = some ⟨g, 0, none⟩ := by
        rcases HO2.out.2 with ⟨e, h0⟩ | ⟨g, _, _, e, _⟩
        · omega
        · injection e with e; exact ⟨g, e⟩
      have hgB := (HO2.out.lt g rfl).1
      have ck0 := HO2.out.cellAt k (by omega)
      have fk0 := HO2.out.frozenAt k
      obtain ⟨hst, hgr⟩ := HO2.out.stored k (.int .u8 (cb.toNat : Int))
      rw [show (Value.int .u8 (cb.toNat : Int)) = byteV cb from rfl, ← List.map_set] at hst
      have ck1 : (eb.map byteV)[k]? = some (.int .u8 ((bat eb k).toNat : Int)) := by
        rw [List.getElem?_map]
        unfold bat
        rw [List.getD_eq_getElem?_getD, List.getElem?_eq_getElem (by rw [HN.out]; exact hk)]; rfl
      rw [ck1] at ck0
      have HO3 := Lib.hid (show (w2.setCell ⟨g, k, none⟩ (.int .u8 (cb.toNat : Int))).ownsRow w1.heap.size 5 1 (.slice (some ⟨g, 0, none⟩) N gc) N ((eb.set k cb).map byteV) from hst)
      have HB3 := Lib.hid (HB2.out.grown hgr (Nat.le_trans hB1 (Nat.le_trans hgB (Nat.le_of_lt (HO2.out.lt g rfl).2))) (by intro x hx; injection hx with hx; omega))
      have HL3 := Lib.hid (show (eb.set k cb).length = N by rw [List.length_set]; exact HN.out)
      clear hst hgr ck1 hk1 hk2
      generalize eb.set k cb = e3 at *
      generalize bat eb k = old at *
      obtain ⟨fr, hfr, hfr2⟩ : ∃ fr : Nat, k / 24 * 24 = fr ∧ fr + 24 ≤ N := ⟨k / 24 * 24, rfl, by have := HQ.out; omega⟩
      have hfi : (k : Int) / 24 * 24 = (fr : Int) := by omega
      clear hfr
      cases fix
      · have HC := Lib.hid (own_rdl HO3.out)
        have HBc := HB3
        have hse : e3.length ≤ 960 := by rw [HL3.out]; omega
        have hBB : w2.heap.size = (w2.setCell ⟨g, k, none⟩ (.int .u8 (cb.toNat : Int))).heap.size := by simp
        have hwB : w.heap.size ≤ w2.heap.size := Nat.le_trans HBc.out.size (Nat.le_of_eq hBB.symm)
        have HMade := Lib.hid (show ((w2.setCell ⟨g, k, none⟩ (.int .u8 (cb.toNat : Int))).alloc (.cells #[] 5)).ownsRow w2.heap.size 5 1 (.slice (some ⟨w2.heap.size, 0, none⟩) 0 0) 0 [] by rw [hBB]; exact World.ownsRow_made (e := 5) (size := 1) (w2.setCell ⟨g, k, none⟩ (.int .u8 (cb.toNat : Int))) #[] 0 (Nat.le_refl _) (by decide) rfl)
        have HAl := Lib.hid (show Below w2.heap.size (w2.setCell ⟨g, k, none⟩ (.int .u8 (cb.toNat : Int))) ((w2.setCell ⟨g, k, none⟩ (.int .u8 (cb.toNat : Int))).alloc (.cells #[] 5)) from (Below.refl _ _).alloc (Nat.le_of_eq hBB) _)
        have hBs : w2.heap.size ≤ ((w2.setCell ⟨g, k, none⟩ (.int .u8 (cb.toNat : Int))).alloc (.cells #[] 5)).heap.size := Nat.le_trans (Nat.le_of_eq hBB) (by simp)
        have HBB := Lib.hid hBB
        clear hBB
        go_wp2_with (first | (at_builtin; refine wpList_app rfl (.tmp 66) (.tmp 67) 27 rfl elemB (w2.heap.size) rfl HMade.out rfl (HC.out.alloc _) (bytes_one _) (by unfold maxLen; omega) (by omega) hBs ?_; intro v7 w7 hown7 hgr7 hv7; clear hv7; have HW7 := Lib.hid (own_below HAl.out HMade.out hBs hgr7); have HX7 := Lib.hid (HBc.out.trans (HW7.out.mono hwB)); rw [Nat.zero_add] at hown7; have HO7 := Lib.hid hown7; have hB7 : w2.heap.size ≤ w7.heap.size := Nat.le_trans hBs hgr7.size; clear hown7 hgr7) | (at_builtin; refine wpList_app rfl (.tmp 68) (.tmp 69) 27 rfl elemB (w2.heap.size) rfl HO7.out rfl (RdL.below HRr.out HX7.out) (bytes_one _) (by unfold maxLen; omega) (by omega) hB7 ?_; intro v8 w8 hown8 hgr8 hv8; clear hv8; obtain ⟨a8, c8, rfl, _, _, _⟩ := own_form hown8; have HW8 := Lib.hid (HW7.out.trans (own_below (Below.refl w2.heap.size w7) HO7.out hB7 hgr8)); have HX8 := Lib.hid (HBc.out.trans (HW8.out.mono hwB)); have HO8 := Lib.hid hown8; clear hown8 hgr8))
        have bA := (Below.refl w8.heap.size w8).alloc (Nat.le_refl _) (.cells #[.slice ra n0 rcap, .slice (some ⟨g, 0, none⟩) N gc, .slice a8 (e3.length + raw.length) c8] 27)
        have HT := Lib.hid (show Thr (w8.alloc (.cells #[.slice ra n0 rcap, .slice (some ⟨g, 0, none⟩) N gc, .slice a8 (e3.length + raw.length) c8] 27)) w8.heap.size (.slice ra n0 rcap) (.slice (some ⟨g, 0, none⟩) N gc) (.slice a8 (e3.length + raw.length) c8) raw (e3) (e3 ++ raw) from
          ⟨by simp, by simp, by simp, RdL.below (RdL.below HRr.out HX8.out) bA, RdL.below (RdL.below HC.out (show Below (w2.setCell ⟨g, k, none⟩ (.int .u8 (cb.toNat : Int))).heap.size (w2.setCell ⟨g, k, none⟩ (.int .u8 (cb.toNat : Int))) w8 by first | exact HW8.out | (rw [← HBB.out]; exact HW8.out))) bA, RdL.below (own_rdl (l := e3 ++ raw) (by simpa using HO8.out)) bA⟩)
        have HBf := Lib.hid (bup HX8.out HX8.out.size bA)
        have HSm := Lib.hid (show Sml raw ∧ Sml (e3) ∧ Sml (e3 ++ raw) from ⟨by unfold Sml; omega, by unfold Sml; omega, by unfold Sml; rw [List.length_append]; omega⟩)
        obtain ⟨W9, hW9⟩ : ∃ W9, W9 = w8.alloc (.cells #[.slice ra n0 rcap, .slice (some ⟨g, 0, none⟩) N gc, .slice a8 (e3.length + raw.length) c8] 27) := ⟨_, rfl⟩
        rw [← hW9] at HT HBf ⊢
        clear hW9 bA HO8 HW8 HX8 HO7 HW7 HX7 HC HBc HMade HAl
        go_loopw [73] (fun iv wr => ∃ i : Nat, iv = .int .i64 (i : Int) ∧ i ≤ 3 ∧ Below W9.heap.size W9 wr) (fun iv _ => 3 - (intOf iv).toNat)
        case atStart => exact ⟨0, rfl, by omega, Below.refl _ _⟩
        case round =>
          obtain ⟨i, rfl, hi, hb⟩ := hrel
          have Hb := Lib.hid hb
          clear hb
          by_cases hlt : i < 3
          · obtain ⟨ka, kn, kc, L, e1, hrL, hsm⟩ := (HT.out.below Hb.out).at (p := Sml) HSm.out.1 HSm.out.2.1 HSm.out.2.2 hlt
            have HrL := Lib.hid hrL
            have HD1 := Lib.hid (fun v w h => dec_any v L w h hsm)
            have HD2 := Lib.hid (fun v w h => rdec_any v L w h hsm)
            generalize dec L = D at *
            have HSa := Lib.hid (fun va vb w h1 h2 => same_any va vb D.2 D.2 w h1 h2)
            have hdd : decide (D.2 = D.2) = true := decide_eq_true rfl
            rw [hdd] at HSa
            clear hrL hsm hdd
            go_wp2_with fail
            refine (HD1.out _ _ HrL.out).mono ?_; rintro e w3 ⟨⟨v3, rfl, hown3⟩, hb3⟩
            have HR3 := Lib.hid (RdL.below HrL.out hb3)
            have HO3 := Lib.hid hown3.rd
            have HB3 := Lib.hid (bstep Hb.out hb3)
            clear hown3 hb3
            go_wp2_with fail
            refine (HD2.out _ _ HR3.out).mono ?_; rintro e w4 ⟨⟨v4, rfl, hown4⟩, hb4⟩
            have HO4 := Lib.hid hown4.rd
            have HO34 := Lib.hid (HO3.out.below hb4)
            have HB4 := Lib.hid (bstep HB3.out hb4)
            have hee : (D.1 != D.1) = false := by simp
            clear hown4 hb4
            go_wp2_with fail
            refine (HSa.out _ _ _ HO34.out HO4.out).mono ?_; rintro e w5 ⟨rfl, hb5⟩
            have HB5 := Lib.hid (bstep HB4.out hb5)
            clear hb5
            go_wp2_with fail
            exact ⟨⟨i + 1, by go_num, by omega, HB5.out⟩, by simp [intOf]; omega⟩
          · obtain rfl : i = 3 := by omega
            go_wp2_with fail
            refine (awake_any _).mono ?_; rintro e w6 ⟨rfl, hb6⟩
            have HB6 := Lib.hid (bup HBf.out HBf.out.size (bstep Hb.out hb6))
            clear hb6
            go_wp2_with fail
            go_ret
            exact ⟨rfl, HB6.out⟩
      · obtain ⟨W3, hW3⟩ : ∃ W3, W3 = w2.setCell ⟨g, k, none⟩ (.int .u8 (cb.toNat : Int)) := ⟨_, rfl⟩
        rw [← hW3] at HO3 HB3
        have HW3 := Lib.hid hW3
        clear hW3
        have hrd3 : RdB W3 (.slice (some ⟨g, 0, none⟩) N gc) e3 := own_rdl HO3.out
        obtain ⟨x1, y1, g1, r1⟩ := RdL.part (P := Try.prog) elemB hrd3 fr (fr + 20) (by omega) (by omega)
        have HCk := Lib.hid (fun W h => rcheck_any (.slice x1 (fr + 20 - fr) y1) _ W (RdL.below r1 h))
        rw [show fr + 20 - fr = 20 by omega] at HCk
        simp only [show fr + 20 - fr = 20 by omega, Int.natCast_add] at g1
        rw [show ((20 : Nat) : Int) = 20 from rfl] at g1
        have HCp := Lib.hid (fun (W : World) (hown : W.ownsRow w1.heap.size 5 1 (.slice (some ⟨g, 0, none⟩) N gc) N (e3.map byteV)) sa sc s (hs : RdB W (.slice sa 4 sc) s) dl dc (hd : 4 ≤ dl) => copy_own hown hs (fr + 20) dl dc (by omega) hd (by omega))
        have j1 : IntKind.i64.wrap ((fr : Int) + 20) = (fr : Int) + 20 := IntWalk.i64_in _ (by omega)
        have j2 : (0 : Int) ≤ (fr : Int) + 20 := by omega
        have j3 : (fr : Int) + 20 ≤ (N : Int) := by omega
        have j4 : ((fr : Int) + 20).toNat = fr + 20 := by omega
        clear hrd3 r1
        go_wp2_with fail
        rw [← HW3.out]
        go_region_held3 (fun _ => True) (trivial)
          ((go_at_call 20; (refine (HCk.out _ (Below.refl _ _).drew).mono ?_); rintro e w4 ⟨v4, rfl, hown4, hb4⟩; obtain ⟨a4, c4, rfl, _, _, _⟩ := own_form (show w4.ownsRow _ 5 1 v4 4 _ from hown4); obtain ⟨w5, hcp, hown5, hgr5⟩ := HCp.out w4 (own_keep HO3.out (bstep (Below.refl _ _).drew hb4)) a4 c4 _ hown4.rd (N - (fr + 20)) (gc - (fr + 20)) (by omega)))
        have HB4 := Lib.hid (bup HB3.out HB3.out.size (bstep (Below.refl W3.heap.size W3).drew hb4))
        have HBc := Lib.hid (HB4.out.grown hgr5 HB4.out.size (by intro x hx; injection hx with hx; omega))
        have HC := Lib.hid (own_rdl hown5)
        have hse : (e3.take (fr + 20) ++ ck ((e3.drop fr).take 20) ++ e3.drop (fr + 20 + 4)).length ≤ 960 := by
          rw [List.length_append, List.length_append, List.length_take, List.length_drop, HL3.out, show (ck ((e3.drop fr).take 20)).length = 4 from rfl]; omega
        generalize e3.take (fr + 20) ++ ck ((e3.drop fr).take 20) ++ e3.drop (fr + 20 + 4) = e5 at *
        clear hcp hown4 hown5 hb4 hgr5 g1 j1 j2 j3 j4
        have hBB : w5.heap.size = w5.heap.size := rfl
        have hwB : w.heap.size ≤ w5.heap.size := Nat.le_trans HBc.out.size (Nat.le_of_eq hBB.symm)
        have HMade := Lib.hid (show ((w5).alloc (.cells #[] 5)).ownsRow w5.heap.size 5 1 (.slice (some ⟨w5.heap.size, 0, none⟩) 0 0) 0 [] by rw [hBB]; exact World.ownsRow_made (e := 5) (size := 1) (w5) #[] 0 (Nat.le_refl _) (by decide) rfl)
        have HAl := Lib.hid (show Below w5.heap.size (w5) ((w5).alloc (.cells #[] 5)) from (Below.refl _ _).alloc (Nat.le_of_eq hBB) _)
        have hBs : w5.heap.size ≤ ((w5).alloc (.cells #[] 5)).heap.size := Nat.le_trans (Nat.le_of_eq hBB) (by simp)
        have HBB := Lib.hid hBB
        clear hBB
        go_wp2_with (first | (at_builtin; refine wpList_app rfl (.tmp 66) (.tmp 67) 27 rfl elemB (w5.heap.size) rfl HMade.out rfl (HC.out.alloc _) (bytes_one _) (by unfold maxLen; omega) (by omega) hBs ?_; intro v7 w7 hown7 hgr7 hv7; clear hv7; have HW7 := Lib.hid (own_below HAl.out HMade.out hBs hgr7); have HX7 := Lib.hid (HBc.out.trans (HW7.out.mono hwB)); rw [Nat.zero_add] at hown7; have HO7 := Lib.hid hown7; have hB7 : w5.heap.size ≤ w7.heap.size := Nat.le_trans hBs hgr7.size; clear hown7 hgr7) | (at_builtin; refine wpList_app rfl (.tmp 68) (.tmp 69) 27 rfl elemB (w5.heap.size) rfl HO7.out rfl (RdL.below HRr.out HX7.out) (bytes_one _) (by unfold maxLen; omega) (by omega) hB7 ?_; intro v8 w8 hown8 hgr8 hv8; clear hv8; obtain ⟨a8, c8, rfl, _, _, _⟩ := own_form hown8; have HW8 := Lib.hid (HW7.out.trans (own_below (Below.refl w5.heap.size w7) HO7.out hB7 hgr8)); have HX8 := Lib.hid (HBc.out.trans (HW8.out.mono hwB)); have HO8 := Lib.hid hown8; clear hown8 hgr8))
        have bA := (Below.refl w8.heap.size w8).alloc (Nat.le_refl _) (.cells #[.slice ra n0 rcap, .slice (some ⟨g, 0, none⟩) N gc, .slice a8 (e5.length + raw.length) c8] 27)
        have HT := Lib.hid (show Thr (w8.alloc (.cells #[.slice ra n0 rcap, .slice (some ⟨g, 0, none⟩) N gc, .slice a8 (e5.length + raw.length) c8] 27)) w8.heap.size (.slice ra n0 rcap) (.slice (some ⟨g, 0, none⟩) N gc) (.slice a8 (e5.length + raw.length) c8) raw (e5) (e5 ++ raw) from
          ⟨by simp, by simp, by simp, RdL.below (RdL.below HRr.out HX8.out) bA, RdL.below (RdL.below HC.out (show Below (w5).heap.size (w5) w8 by first | exact HW8.out | (rw [← HBB.out]; exact HW8.out))) bA, RdL.below (own_rdl (l := e5 ++ raw) (by simpa using HO8.out)) bA⟩)
        have HBf := Lib.hid (bup HX8.out HX8.out.size bA)
        have HSm := Lib.hid (show Sml raw ∧ Sml (e5) ∧ Sml (e5 ++ raw) from ⟨by unfold Sml; omega, by unfold Sml; omega, by unfold Sml; rw [List.length_append]; omega⟩)
        obtain ⟨W9, hW9⟩ : ∃ W9, W9 = w8.alloc (.cells #[.slice ra n0 rcap, .slice (some ⟨g, 0, none⟩) N gc, .slice a8 (e5.length + raw.length) c8] 27) := ⟨_, rfl⟩
        rw [← hW9] at HT HBf ⊢
        clear hW9 bA HO8 HW8 HX8 HO7 HW7 HX7 HC HBc HMade HAl
        go_loopw [73] (fun iv wr => ∃ i : Nat, iv = .int .i64 (i : Int) ∧ i ≤ 3 ∧ Below W9.heap.size W9 wr) (fun iv _ => 3 - (intOf iv).toNat)
        case atStart => exact ⟨0, rfl, by omega, Below.refl _ _⟩
        case round =>
          obtain ⟨i, rfl, hi, hb⟩ := hrel
          have Hb := Lib.hid hb
          clear hb
          by_cases hlt : i < 3
          · obtain ⟨ka, kn, kc, L, e1, hrL, hsm⟩ := (HT.out.below Hb.out).at (p := Sml) HSm.out.1 HSm.out.2.1 HSm.out.2.2 hlt
            have HrL := Lib.hid hrL
            have HD1 := Lib.hid (fun v w h => dec_any v L w h hsm)
            have HD2 := Lib.hid (fun v w h => rdec_any v L w h hsm)
            generalize dec L = D at *
            have HSa := Lib.hid (fun va vb w h1 h2 => same_any va vb D.2 D.2 w h1 h2)
            have hdd : decide (D.2 = D.2) = true := decide_eq_true rfl
            rw [hdd] at HSa
            clear hrL hsm hdd
            go_wp2_with fail
            refine (HD1.out _ _ HrL.out).mono ?_; rintro e w3 ⟨⟨v3, rfl, hown3⟩, hb3⟩
            have HR3 := Lib.hid (RdL.below HrL.out hb3)
            have HO3 := Lib.hid hown3.rd
            have HB3 := Lib.hid (bstep Hb.out hb3)
            clear hown3 hb3
            go_wp2_with fail
            refine (HD2.out _ _ HR3.out).mono ?_; rintro e w4 ⟨⟨v4, rfl, hown4⟩, hb4⟩
            have HO4 := Lib.hid hown4.rd
            have HO34 := Lib.hid (HO3.out.below hb4)
            have HB4 := Lib.hid (bstep HB3.out hb4)
            have hee : (D.1 != D.1) = false := by simp
            clear hown4 hb4
            go_wp2_with fail
            refine (HSa.out _ _ _ HO34.out HO4.out).mono ?_; rintro e w5 ⟨rfl, hb5⟩
            have HB5 := Lib.hid (bstep HB4.out hb5)
            clear hb5
            go_wp2_with fail
            exact ⟨⟨i + 1, by go_num, by omega, HB5.out⟩, by simp [intOf]; omega⟩
          · obtain rfl : i = 3 := by omega
            go_wp2_with fail
            refine (awake_any _).mono ?_; rintro e w6 ⟨rfl, hb6⟩
            have HB6 := Lib.hid (bup HBf.out HBf.out.size (bstep Hb.out hb6))
            clear hb6
            go_wp2_with fail
            go_ret
            exact ⟨rfl, HB6.out⟩
theorem decodes_walk (b : Option Addr) (k c : Nat) (zs : List Int) (a : Option Addr) (n cap : Nat) (at_ cc : Int) (fix : Bool) (w : World) (h2 : IsRow .u8 w b k c zs) (h : ∃ l, RdT w (.slice a n cap) l ∧ ∀ x ∈ l, x.Wf) (_ha : (Lit.int .i64 at_).wf = true) (hc : (Lit.int .u8 cc).wf = true) :
    Calls Try.prog 6 #[.slice b k c, .slice a n cap, .int .i64 at_, .int .u8 cc, .bool fix] w fun e w' => e = .returned (.bool true) ∧ Below w.heap.size w w' := by
  obtain ⟨l, h, hw⟩ := h
  obtain ⟨raw, hl, hr⟩ := isRow_bytes h2
  obtain ⟨cb, rfl⟩ := byte_of_u8 hc
  exact ldec_core _ l b k c raw at_ cb fix w h hw hr
end Go.Proofs.Ytbfflgkijiggfaa
