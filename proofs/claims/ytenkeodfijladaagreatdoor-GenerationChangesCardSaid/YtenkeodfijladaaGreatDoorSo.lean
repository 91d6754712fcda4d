/- The walk over the reference's Sorted. -/
import Derived.Test.YtenkeodfijladaaGreatDoorIv
import Derived.Test.YtenkeodfijladaaGreatDoorPs
import Derived.Deep.RegionLaw
import Derived.Deep.RegionWith
namespace Go.Proofs.YtenkeodfijladaaGreatDoor
open Go.RowKit

theorem ne_row {wo : World} {base : Nat} {a oa : Option Addr} {oc m : Nat} {xs : List Value} (h : ∀ z, a = some z → wo.heap.size ≤ z.block) (ho : wo.ownsRow base 77 4 (.slice oa m oc) m xs) (k : Nat) :
    ∀ z, a = some z → some z.block ≠ (Value.slice oa k oc).ownBlock := by
  intro z hz e
  have h1 := h z hz
  have h2 := ho.lt z.block (by rw [e]; cases oa <;> rfl)
  omega
set_option maxHeartbeats 1000000 in
theorem rsort_any (v : Value) (l : List It) (w : World) (h : RdT w v l) (hs : l.length ≤ 1000000) :
    Calls Tryz.prog 99 #[v] w fun e w' => ∃ v', e = .returned v' ∧ OwnT w' w.heap.size v' (srt l) ∧ Below w.heap.size w w' := by
  obtain ⟨a, cap, rfl, _, _⟩ := h.shape
  have HS := Lib.hid (show ∀ j, j < l.length → _ from fun j => srt_take (l := l) (j := j))
  have HL := Lib.hid (srt_take_length l)
  have HE := Lib.hid (show srt (l.take l.length) = srt l by rw [List.take_length])
  generalize hn : l.length = n at *
  have Hr := Lib.hid h
  clear h hn
  go_enter Tryz.func99, Tryz.ntmps99
  go_wp2_with fail
  go_loopw [3, 4] (fun ov iv wr => ∃ j : Nat, iv = .int .i64 (j : Int) ∧ j ≤ n ∧ OwnT wr w.heap.size ov (srt (l.take j)) ∧ Below w.heap.size w wr) (fun _ iv _ => n - (intOf iv).toNat)
  case atStart => exact ⟨0, rfl, Nat.zero_le _, World.ownsRow_nil _ _ _ _, Below.refl _ _⟩
  case round =>
    obtain ⟨j, rfl, hj, hown, hb⟩ := hrel
    have hB := hb.size
    obtain ⟨oa, oc, rfl, ho1, ho2, ho3⟩ := own_form hown
    have Ho3 := Lib.hid ho3
    have Hb := Lib.hid hb
    have Hown := Lib.hid (show wr.ownsRow w.heap.size 77 4 _ (srt (l.take j)).length (itsC (srt (l.take j))) from hown)
    clear hown hb ho3
    by_cases hlt : j < n
    · have hL := HL.out j hj
      have HSj := Lib.hid (HS.out j hlt)
      generalize srt (l.take j) = o at *
      generalize hm : o.length = m at *
      have HM := Lib.hid hm
      clear hm
      obtain ⟨b, off, rfl, c0, c1, c2, c3⟩ := Hr.out.at hlt
      generalize iat l j = x at *
      have HS4 := Lib.hid (fun w' (h : Below w.heap.size w w') => And.intro (Below.keeps h _ _ c0) (And.intro (Below.keeps h _ _ c1) (And.intro (Below.keeps h _ _ c2) (Below.keeps h _ _ c3))))
      have c0 := Below.keeps Hb.out _ _ c0
      clear c1 c2 c3
      obtain ⟨wo, ewo⟩ : ∃ wo : World, wo = wr := ⟨_, rfl⟩
      subst ewo
      go_wp2_with fail
      go_loopw [5] (fun kv w2 => ∃ k : Nat, kv = .int .i64 (k : Int) ∧ k ≤ m ∧ (∀ i, i < k → (iat o i).key < x.key) ∧ Below wo.heap.size wo w2) (fun kv _ => m - (intOf kv).toNat)
      case atStart => exact ⟨0, rfl, Nat.zero_le _, fun i hi => absurd hi (by omega), Below.refl _ _⟩
      case round =>
        obtain ⟨k, rfl, hk, hkey, hb2⟩ := hrel
        have Hkey := Lib.hid hkey
        have Hb2 := Lib.hid hb2
        have d0 := Below.keeps hb2 _ _ c0
        clear hkey hb2
        have i1 : (j : Int) < (n : Int) := by omega
        by_cases hkm : k < m
        · have ho := (rd_rdT (own_rd Hown.out)).below Hb2.out
          obtain ⟨bo, oo, rfl, e0, _⟩ := ho.at hkm
          clear ho
          have i2 : (k : Int) < (m : Int) := by omega
          generalize hy : (iat o k).key = y at *
          have HY := Lib.hid hy
          clear hy
          by_cases hyx : y < x.key
          · have hyd : decide (y < x.key) = true := decide_eq_true hyx
            go_wp2_with fail
            go_quiet (fail)
            clear i1 i2
            go_wp2_with fail
            exact ⟨⟨k + 1, by go_num, by omega, fun i hi => by
              by_cases e : i = k
              · rw [e, HY.out]; exact hyx
              · exact Hkey.out i (by omega), below_drewN Hb2.out _⟩, by simp [intOf]; omega⟩
          · have hyd : decide (y < x.key) = false := decide_eq_false hyx
            have Hins := Lib.hid (ins_eq o x k (by rw [HM.out]; exact hk) Hkey.out (by rw [HY.out]; omega))
            obtain ⟨sa, sc, hrun, hsl, hsb⟩ := slice_from elemT (rdT_rd ((rd_rdT (own_rd Hown.out)).below Hb2.out)) k hk
            rw [← itsC_drop] at hsl
            obtain ⟨d, hd, hd1, hd2⟩ : ∃ d, m - k = d ∧ 0 < d ∧ d ≤ m := ⟨m - k, rfl, by omega, by omega⟩
            rw [hd] at hsl hrun
            have HD := Lib.hid hd
            have HSl := Lib.hid hsl
            have Hmade := Lib.hid (fun nq => World.ownsRow_made (base := wr.heap.size) (e := 77) (size := 4) (wr.drewN nq) #[] 0 (Nat.le_refl _) (by decide) rfl)
            clear hsl hsb hd
            go_wp2_with fail
            go_quiet (fail)
            clear i1 i2
            go_wp2_with (at_builtin; go_must (refine wpList_app rfl (.tmp 32) (.tmp 35) 22 rfl elemT wr.heap.size rfl (Hmade.out nq) rfl ((HSl.out.below (below_drewN (Below.refl _ _) nq)).alloc _) (itsC_one' _) (by unfold maxLen; omega) (by omega) (by simp) ?_); intro v3 w3 hown3 hgr3 hv3; clear hv3)
            rw [Nat.zero_add, List.nil_append] at hown3
            have hb3 := own_below ((below_drewN (Below.refl wr.heap.size wr) nq).alloc (Nat.le_refl _) _) (Hmade.out nq) (by simp) hgr3
            obtain ⟨ra, rc, rfl, hr1, hr2, hr3⟩ := own_form hown3
            obtain ⟨rb, roff, rfl, g0, _⟩ := (rd_rdT (own_rd hown3)).at hd1
            have hrb := (hown3.lt rb rfl).1
            simp only [iat_drop, Nat.zero_mul, Nat.add_zero, HY.out] at g0
            have k0 := Below.keeps hb3 _ _ d0
            have Hr3 := Lib.hid (own_rd hown3)
            have Hb3 := Lib.hid hb3
            have hdd : decide ((0 : Int) < (d : Int)) = true := by simp; omega
            have i1 : (j : Int) < (n : Int) := by omega
            clear hown3 hgr3 hb3 hr3 hrun
            by_cases hyx2 : y = x.key
            · have hbe : (y == x.key) = true := beq_iff_eq.2 hyx2
              obtain ⟨ta, tc, hrun2, hsl2, hsb2⟩ := slice_from elemT Hr3.out 1 hd1
              rw [show ((1 : Nat) : Int) = 1 from rfl] at hrun2
              have HSl2 := Lib.hid hsl2
              have HSb2 := Lib.hid hsb2
              clear hsl2 hsb2
              go_wp2_with fail
              go_quiet (fail)
              go_wp2_with fail
              obtain ⟨w4, hw4⟩ : ∃ w4, w4 = w3.drewN nq := ⟨_, rfl⟩
              rw [← hw4]
              have HBL := Lib.hid (show Below wo.heap.size wo w4 by rw [hw4]; exact below_drewN (bstep Hb2.out Hb3.out) nq)
              have HRD := Lib.hid (show Rd w4 4 (.slice ta (d - 1) tc) (d - 1) (itsC (o.drop (k + 1))) by
                rw [hw4, show k + 1 = k + 1 from rfl, ← List.drop_drop, itsC_drop]; exact HSl2.out.below (below_drewN (Below.refl _ _) nq))
              have HNE := Lib.hid (show ∀ z, ta = some z → wo.heap.size ≤ z.block from fun z hz => by
                obtain ⟨y', hy', e⟩ := HSb2.out z hz
                injection hy' with hy'
                rw [← e, ← hy']; exact Nat.le_trans Hb2.out.size hrb)
              have HNE2 := Lib.hid (ne_row HNE.out Hown.out k)
              have HOK := Lib.hid (show ins o x = o.take k ++ x :: o.drop (k + 1) by rw [Hins.out, if_pos ⟨by rw [HM.out]; exact hkm, HY.out.trans hyx2⟩])
              have HRL := Lib.hid (show d - 1 ≤ m by omega)
              clear hw4 Hr3 Hb3 HSl2 HSb2 hrun2 g0 k0 hbe hyx2
              have hto := slice_to (P := Tryz.prog) elemT (n := m) Ho3.out k (Nat.le_trans hk ho1)
              have HW4 := Lib.hid (bstep Hb.out HBL.out)
              have hB4 : w.heap.size ≤ w4.heap.size := HW4.out.size
              have Hown4 := Lib.hid (own_take (own_keep Hown.out HBL.out) k hk)
              have HT := Lib.hid (itsC_one' [x])
              have hrl := HRL.out
              go_region_held3 (fun w' => w'.cell? ⟨b, off + j * 4, none⟩ = some (.int .u64 x.key) ∧ w'.cell? ⟨b, off + j * 4 + 1, none⟩ = some (.int .u32 x.ck) ∧ w'.cell? ⟨b, off + j * 4 + 2, none⟩ = some (.int .i64 x.off) ∧ w'.cell? ⟨b, off + j * 4 + 3, none⟩ = some (.int .i64 x.size))
                (first | exact HS4.out _ HW4.out.drew | exact HS4.out _ (HW4.out.drew.alloc hB4 _) | exact HS4.out _ (own_below (HW4.out.drew.alloc hB4 _) ((Hown4.out.drew).alloc _) (by simp; omega) hgr5) | exact HS4.out _ (own_below (own_below (HW4.out.drew.alloc hB4 _) ((Hown4.out.drew).alloc _) (by simp; omega) hgr5) hown5 (Nat.le_trans (by simp; omega) hgr5.size) hgr6))
                (first | (refine step_app (by rfl) _ _ _ (by rfl) elemT w.heap.size (by rfl) ((Hown4.out.drew).alloc _) (by rfl) (Rd.new _ 4 (itC x) 77 1 rfl (by decide)) (by simpa [itsC] using HT.out) (by unfold maxLen; omega) (by omega) (by simp; omega) ?_; intro v5 w5 hown5 hgr5 hv5; clear hv5) | (refine step_app (by rfl) _ _ _ (by rfl) elemT w.heap.size (by rfl) hown5 (by rfl) (((HRD.out.drew).alloc _).grown hgr5 HNE2.out) (itsC_one' _) (by unfold maxLen; omega) (by omega) (Nat.le_trans (by simp; omega) hgr5.size) ?_; intro v6 w6 hown6 hgr6 hv6; clear hv6))
              have hfin6 : itsC (o.take k) ++ itC x ++ itsC (o.drop (k + 1)) = itsC (srt (l.take (j + 1))) := by rw [HSj.out, HOK.out, itsC_append, itsC_cons, List.append_assoc]
              rw [itsC_take] at hfin6
              have Hfin6 := Lib.hid hfin6
              have HB6 := Lib.hid (own_below (own_below (HW4.out.drew.alloc hB4 _) ((Hown4.out.drew).alloc _) (by simp; omega) hgr5) hown5 (Nat.le_trans (by simp; omega) hgr5.size) hgr6)
              have HO6 := Lib.hid hown6
              clear hfin6 hown5 hown6 hgr5 hgr6
              go_wp2_with fail
              exact ⟨⟨j + 1, by go_num, by omega, ownT_of HO6.out Hfin6.out, HB6.out⟩, by simp [intOf]; omega⟩
            · have hbe : (y == x.key) = false := beq_eq_false_iff_ne.2 hyx2
              go_wp2_with fail
              go_quiet (fail)
              go_wp2_with fail
              obtain ⟨w4, hw4⟩ : ∃ w4, w4 = w3.drewN nq := ⟨_, rfl⟩
              rw [← hw4]
              have HBL := Lib.hid (show Below wo.heap.size wo w4 by rw [hw4]; exact below_drewN (bstep Hb2.out Hb3.out) nq)
              have HRD := Lib.hid (show Rd w4 4 _ d (itsC (o.drop k)) by
                rw [hw4]; exact Hr3.out.below (below_drewN (Below.refl _ _) nq))
              have HNE := Lib.hid (show ∀ z, some (⟨rb, roff, none⟩ : Addr) = some z → wo.heap.size ≤ z.block from fun z hz => by
                injection hz with hz
                rw [← hz]; exact Nat.le_trans Hb2.out.size hrb)
              have HNE2 := Lib.hid (ne_row HNE.out Hown.out k)
              have HOK := Lib.hid (show ins o x = o.take k ++ x :: o.drop k by rw [Hins.out, if_neg (fun h => hyx2 (HY.out.symm.trans h.2))])
              have HRL := Lib.hid (show d ≤ m by omega)
              clear hw4 Hr3 Hb3 g0 k0 hbe hyx2
              have hto := slice_to (P := Tryz.prog) elemT (n := m) Ho3.out k (Nat.le_trans hk ho1)
              have HW4 := Lib.hid (bstep Hb.out HBL.out)
              have hB4 : w.heap.size ≤ w4.heap.size := HW4.out.size
              have Hown4 := Lib.hid (own_take (own_keep Hown.out HBL.out) k hk)
              have HT := Lib.hid (itsC_one' [x])
              have hrl := HRL.out
              go_region_held3 (fun w' => w'.cell? ⟨b, off + j * 4, none⟩ = some (.int .u64 x.key) ∧ w'.cell? ⟨b, off + j * 4 + 1, none⟩ = some (.int .u32 x.ck) ∧ w'.cell? ⟨b, off + j * 4 + 2, none⟩ = some (.int .i64 x.off) ∧ w'.cell? ⟨b, off + j * 4 + 3, none⟩ = some (.int .i64 x.size))
                (first | exact HS4.out _ HW4.out.drew | exact HS4.out _ (HW4.out.drew.alloc hB4 _) | exact HS4.out _ (own_below (HW4.out.drew.alloc hB4 _) ((Hown4.out.drew).alloc _) (by simp; omega) hgr5) | exact HS4.out _ (own_below (own_below (HW4.out.drew.alloc hB4 _) ((Hown4.out.drew).alloc _) (by simp; omega) hgr5) hown5 (Nat.le_trans (by simp; omega) hgr5.size) hgr6))
                (first | (refine step_app (by rfl) _ _ _ (by rfl) elemT w.heap.size (by rfl) ((Hown4.out.drew).alloc _) (by rfl) (Rd.new _ 4 (itC x) 77 1 rfl (by decide)) (by simpa [itsC] using HT.out) (by unfold maxLen; omega) (by omega) (by simp; omega) ?_; intro v5 w5 hown5 hgr5 hv5; clear hv5) | (refine step_app (by rfl) _ _ _ (by rfl) elemT w.heap.size (by rfl) hown5 (by rfl) (((HRD.out.drew).alloc _).grown hgr5 HNE2.out) (itsC_one' _) (by unfold maxLen; omega) (by omega) (Nat.le_trans (by simp; omega) hgr5.size) ?_; intro v6 w6 hown6 hgr6 hv6; clear hv6))
              have hfin6 : itsC (o.take k) ++ itC x ++ itsC (o.drop k) = itsC (srt (l.take (j + 1))) := by rw [HSj.out, HOK.out, itsC_append, itsC_cons, List.append_assoc]
              rw [itsC_take] at hfin6
              have Hfin6 := Lib.hid hfin6
              have HB6 := Lib.hid (own_below (own_below (HW4.out.drew.alloc hB4 _) ((Hown4.out.drew).alloc _) (by simp; omega) hgr5) hown5 (Nat.le_trans (by simp; omega) hgr5.size) hgr6)
              have HO6 := Lib.hid hown6
              clear hfin6 hown5 hown6 hgr5 hgr6
              go_wp2_with fail
              exact ⟨⟨j + 1, by go_num, by omega, ownT_of HO6.out Hfin6.out, HB6.out⟩, by simp [intOf]; omega⟩
        · obtain rfl : k = m := by omega
          have Hins := Lib.hid (ins_eq o x k (by rw [HM.out]; exact Nat.le_refl _) Hkey.out (by rw [HM.out]; intro h; omega))
          obtain ⟨sa, sc, hrun, hsl, hsb⟩ := slice_from elemT (own_rd (own_keep Hown.out Hb2.out)) k hk
          rw [Nat.sub_self, List.drop_of_length_le (by rw [itsC_length, HM.out]; exact Nat.le_refl _)] at hsl
          rw [Nat.sub_self] at hrun
          have HSl := Lib.hid hsl
          have Hmade := Lib.hid (fun nq => World.ownsRow_made (base := wr.heap.size) (e := 77) (size := 4) (wr.drewN nq) #[] 0 (Nat.le_refl _) (by decide) rfl)
          clear hsl hsb
          go_wp2_with fail
          go_quiet (fail)
          clear i1
          go_wp2_with (at_builtin; go_must (refine wpList_app rfl (.tmp 32) (.tmp 35) 22 rfl elemT wr.heap.size rfl (Hmade.out nq) rfl ((HSl.out.below (below_drewN (Below.refl _ _) nq)).alloc _) (fun _ h => by cases h) (by unfold maxLen; omega) (by omega) (by simp) ?_); intro v3 w3 hown3 hgr3 hv3; clear hv3)
          rw [Nat.zero_add, List.nil_append] at hown3
          have hb3 := own_below ((below_drewN (Below.refl wr.heap.size wr) nq).alloc (Nat.le_refl _) _) (Hmade.out nq) (by simp) hgr3
          obtain ⟨ra, rc, rfl, hr1, hr2, hr3⟩ := own_form hown3
          have Hr3 := Lib.hid (own_rd hown3)
          have Hb3 := Lib.hid hb3
          have HNE := Lib.hid (show ∀ z, ra = some z → wo.heap.size ≤ z.block from fun z hz => by
            subst hz
            exact Nat.le_trans Hb2.out.size (hown3.lt _ rfl).1)
          have HNE2 := Lib.hid (ne_row HNE.out Hown.out k)
          have HOK := Lib.hid (show ins o x = o.take k ++ x :: [] by rw [Hins.out, if_neg (fun h => by have := HM.out; omega), List.drop_of_length_le (by rw [HM.out]; exact Nat.le_refl _)])
          have HRL := Lib.hid (show 0 ≤ k from Nat.zero_le _)
          clear hown3 hgr3 hb3 hr3 hrun
          go_wp2_with fail
          go_quiet (fail)
          go_wp2_with fail
          obtain ⟨w4, hw4⟩ : ∃ w4, w4 = w3.drewN nq := ⟨_, rfl⟩
          rw [← hw4]
          have HBL := Lib.hid (show Below wo.heap.size wo w4 by rw [hw4]; exact below_drewN (bstep Hb2.out Hb3.out) nq)
          have HRD := Lib.hid (show Rd w4 4 _ 0 (itsC []) by
            rw [hw4]; exact Hr3.out.below (below_drewN (Below.refl _ _) nq))
          clear hw4 Hr3 Hb3
          have hto := slice_to (P := Tryz.prog) elemT (n := k) Ho3.out k ho1
          have HW4 := Lib.hid (bstep Hb.out HBL.out)
          have hB4 : w.heap.size ≤ w4.heap.size := HW4.out.size
          have Hown4 := Lib.hid (own_take (own_keep Hown.out HBL.out) k hk)
          have HT := Lib.hid (itsC_one' [x])
          have hrl := HRL.out
          go_region_held3 (fun w' => w'.cell? ⟨b, off + j * 4, none⟩ = some (.int .u64 x.key) ∧ w'.cell? ⟨b, off + j * 4 + 1, none⟩ = some (.int .u32 x.ck) ∧ w'.cell? ⟨b, off + j * 4 + 2, none⟩ = some (.int .i64 x.off) ∧ w'.cell? ⟨b, off + j * 4 + 3, none⟩ = some (.int .i64 x.size))
            (first | exact HS4.out _ HW4.out.drew | exact HS4.out _ (HW4.out.drew.alloc hB4 _) | exact HS4.out _ (own_below (HW4.out.drew.alloc hB4 _) ((Hown4.out.drew).alloc _) (by simp; omega) hgr5) | exact HS4.out _ (own_below (own_below (HW4.out.drew.alloc hB4 _) ((Hown4.out.drew).alloc _) (by simp; omega) hgr5) hown5 (Nat.le_trans (by simp; omega) hgr5.size) hgr6))
            (first | (refine step_app (by rfl) _ _ _ (by rfl) elemT w.heap.size (by rfl) ((Hown4.out.drew).alloc _) (by rfl) (Rd.new _ 4 (itC x) 77 1 rfl (by decide)) (by simpa [itsC] using HT.out) (by unfold maxLen; omega) (by omega) (by simp; omega) ?_; intro v5 w5 hown5 hgr5 hv5; clear hv5) | (refine step_app (by rfl) _ _ _ (by rfl) elemT w.heap.size (by rfl) hown5 (by rfl) (((HRD.out.drew).alloc _).grown hgr5 HNE2.out) (itsC_one' _) (by unfold maxLen; omega) (by omega) (Nat.le_trans (by simp; omega) hgr5.size) ?_; intro v6 w6 hown6 hgr6 hv6; clear hv6))
          have hfin6 : itsC (o.take k) ++ itC x ++ itsC [] = itsC (srt (l.take (j + 1))) := by rw [HSj.out, HOK.out, itsC_append, itsC_cons, List.append_assoc]
          rw [itsC_take] at hfin6
          have Hfin6 := Lib.hid hfin6
          have HB6 := Lib.hid (own_below (own_below (HW4.out.drew.alloc hB4 _) ((Hown4.out.drew).alloc _) (by simp; omega) hgr5) hown5 (Nat.le_trans (by simp; omega) hgr5.size) hgr6)
          have HO6 := Lib.hid hown6
          clear hfin6 hown5 hown6 hgr5 hgr6
          go_wp2_with fail
          exact ⟨⟨j + 1, by go_num, by omega, ownT_of HO6.out Hfin6.out, HB6.out⟩, by simp [intOf]; omega⟩
    · obtain rfl : j = n := by omega
      go_wp2_with fail
      go_ret
      exact ⟨_, rfl, by rw [← HE.out]; exact Hown.out, Hb.out⟩
end Go.Proofs.YtenkeodfijladaaGreatDoor
