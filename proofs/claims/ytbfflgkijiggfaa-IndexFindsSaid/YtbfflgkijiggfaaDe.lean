/- The walks over slices.Equal of bytes and over Decode, the program's and the reference's. -/
import Derived.Test.YtbfflgkijiggfaaNu
import Derived.Test.YtbfflgkijiggfaaPd
import Derived.Test.YtbfflgkijiggfaaIv
import Derived.Deep.RegionLaw
import Derived.Deep.RegionWith
namespace Go.Proofs.Ytbfflgkijiggfaa
open Go.RowKit

theorem bat_ext {l m : List UInt8} (h : l.length = m.length) (h' : ∀ j, j < l.length → bat l j = bat m j) : l = m := by
  refine List.ext_getElem h fun j h1 h2 => ?_
  have := h' j h1
  unfold bat at this
  rwa [List.getD_eq_getElem?_getD, List.getD_eq_getElem?_getD, List.getElem?_eq_getElem h1, List.getElem?_eq_getElem h2] at this
set_option maxHeartbeats 400000 in
theorem eqb_any (va vb : Value) (l m : List UInt8) (w : World) (ha : RdB w va l) (hb : RdB w vb m) :
    Calls Try.prog 45 #[va, vb] w fun e w' => e = .returned (.bool (decide (l = m))) ∧ Below w.heap.size w w' := by
  obtain ⟨a1, c1, rfl, p1, p2⟩ := ha.shape0
  obtain ⟨a2, c2, rfl, _, _⟩ := hb.shape0
  have hm := lt63 p1 p2
  by_cases hl : l.length = m.length
  · have HT := Lib.hid (show (∀ j, j < l.length → bat l j = bat m j) → l = m from bat_ext hl)
    have hne : ((l.length : Int) != (m.length : Int)) = false := by rw [hl]; simp
    rw [← hl] at hb ⊢
    generalize hn : l.length = n at *
    have Ha := Lib.hid ha
    have Hb := Lib.hid hb
    have hnn : ((n : Int) != (n : Int)) = false := by simp
    clear ha hb hl hn hne p1 p2
    go_enter Try.func45, Try.ntmps45
    go_wp2_with fail
    clear hnn
    go_loopw [13] (fun kv wr => ∃ k : Nat, kv = .int .i64 (k : Int) ∧ k ≤ n ∧ (∀ j, j < k → bat l j = bat m j) ∧ Below w.heap.size w wr) (fun kv _ => n - (intOf kv).toNat)
    case atStart => exact ⟨0, rfl, by omega, fun j hj => absurd hj (by omega), Below.refl _ _⟩
    case round =>
      obtain ⟨k, rfl, hk, heq, hbel⟩ := hrel
      have Heq := Lib.hid heq
      have Hbel := Lib.hid hbel
      clear heq hbel
      by_cases hlt : k < n
      · obtain ⟨b1, o1, rfl, x0⟩ := RdB.at (RdL.below Ha.out Hbel.out) hlt
        obtain ⟨b2, o2, rfl, y0⟩ := RdB.at (RdL.below Hb.out Hbel.out) hlt
        generalize hx : bat l k = x at *
        generalize hy : bat m k = y at *
        have HX := Lib.hid hx
        have HY := Lib.hid hy
        have i1 : (k : Int) < (n : Int) := by omega
        clear hx hy
        by_cases hxy : x = y
        · subst hxy
          have hd : ((x.toNat : Int) != (x.toNat : Int)) = false := by simp
          go_wp2_with fail
          go_quiet (fail)
          clear i1 hd
          go_wp2_with fail
          refine ⟨⟨k + 1, by go_num, by omega, fun j hj => ?_, below_drewN Hbel.out _⟩, by simp [intOf]; omega⟩
          by_cases e : j = k
          · rw [e, HX.out, HY.out]
          · exact Heq.out j (by omega)
        · have hd : ((x.toNat : Int) != (y.toNat : Int)) = true := by
            rw [bne_iff_ne]; intro e; exact hxy (UInt8.toNat_inj.1 (by omega))
          have HN := Lib.hid (show decide (l = m) = false from decide_eq_false fun e => hxy (by rw [← HX.out, ← HY.out, e]))
          clear hxy
          go_wp2_with fail
          go_quiet (fail)
          clear i1 hd
          go_wp2_with fail
          go_ret
          exact ⟨ret_bool HN.out.symm, below_drewN Hbel.out _⟩
      · obtain rfl : k = n := by omega
        have HN := Lib.hid (show decide (l = m) = true from decide_eq_true (HT.out Heq.out))
        go_wp2_with fail
        go_ret
        exact ⟨ret_bool HN.out.symm, Hbel.out⟩
  · have hne : ((l.length : Int) != (m.length : Int)) = true := by rw [bne_iff_ne]; omega
    have HN := Lib.hid (show decide (l = m) = false from decide_eq_false fun e => hl (by rw [e]))
    clear hl ha hb
    go_enter Try.func45, Try.ntmps45
    go_wp2_with fail
    go_ret
    exact ⟨ret_bool HN.out.symm, Below.refl _ _⟩
theorem ckl (l : List UInt8) : (ck l).length = 4 := rfl
def slen : Value → Nat
  | .slice _ n _ => n
  | _ => 0
set_option maxHeartbeats 1000000 in
theorem dec_any (v : Value) (b : List UInt8) (w : World) (h : RdB w v b) (hs : b.length ≤ 1000000) :
    Calls Try.prog 21 #[v] w fun e w' => (∃ v', e = .returned (.tuple #[v', .int .i64 (dec b).1]) ∧ OwnT w' w.heap.size v' (dec b).2) ∧ Below w.heap.size w w' := by
  obtain ⟨a0, c0, rfl, _, _⟩ := h.shape0
  have HD := Lib.hid (fun r l => dec_of (b := b) (r := r) (l := l))
  generalize hN : b.length = N at *
  have HN := Lib.hid hN
  have HS0 := Lib.hid (show decF N b [] = decF N (b.drop 0) [] from rfl)
  generalize decF N b [] = R at *
  generalize dec b = D at *
  have Hr := Lib.hid h
  clear h hN
  go_enter Try.func21, Try.ntmps21
  go_wp2_with fail
  go_loopw [0, 4] (fun bv lv wr => ∃ (k n : Nat) (a : Option Addr) (c : Nat) (acc : List It), bv = .slice a n c ∧ 24 * k + n = N ∧ RdB w (.slice a n c) (b.drop (24 * k)) ∧ OwnT wr w.heap.size lv acc ∧ acc.length = k ∧ R = decF (N - k) (b.drop (24 * k)) acc ∧ Below w.heap.size w wr) (fun bv _ _ => slen bv)
  case atStart => exact ⟨0, N, a0, c0, [], rfl, by omega, Hr.out, World.ownsRow_nil _ _ _ _, rfl, HS0.out, Below.refl _ _⟩
  case round =>
    obtain ⟨k, n, a, c, acc, rfl, hkn, hr, hown, hacc, hR, hb⟩ := hrel
    obtain ⟨oa, oc, rfl, _, _, ho3⟩ := own_form hown
    clear ho3
    rw [hacc] at hown ⊢
    have HO := Lib.hid (show wr.ownsRow w.heap.size 36 4 (.slice oa k oc) k (itsC acc) by rw [← hacc]; rw [← hacc] at hown; exact hown)
    have HOl := Lib.hid hacc
    have HR := Lib.hid hR
    have Hb := Lib.hid hb
    have hB := hb.size
    have hcl := (RdL.bounds hr).1
    have hcap := (RdL.bounds hr).2.1
    generalize hce : b.drop (24 * k) = cur at *
    have HcE := Lib.hid hce
    clear hce
    have HcW := Lib.hid hr
    have Hcur := Lib.hid (RdL.below hr Hb.out)
    have HCl := Lib.hid hcl
    clear hr hown hR hb hcl hacc
    by_cases hn0 : n = 0
    · subst hn0
      have HRf := Lib.hid (HD.out _ _ (HR.out.trans (decF_nil _ _ _ HCl.out)))
      rw [if_pos rfl] at HRf
      have HV := Lib.hid (vld_any _ acc wr (rd_rdT (own_rd HO.out)))
      go_wp2_with fail
      refine HV.out.mono ?_; rintro e w2 ⟨rfl, hb2⟩
      have HB2 := Lib.hid (bstep Hb.out hb2)
      have HO2 := Lib.hid (own_keep HO.out hb2)
      clear hb2
      cases hv : vldB acc
      · rw [hv] at HRf
        have HRg := Lib.hid HRf.out
        clear hv HRf
        go_wp2_with fail
        go_ret2
        exact ⟨⟨.slice none 0 0, ret_vi (by rw [HRg.out]; rfl), by rw [HRg.out]; exact World.ownsRow_nil _ _ _ _⟩, HB2.out⟩
      · rw [hv] at HRf
        have HRg := Lib.hid HRf.out
        clear hv HRf
        go_wp2_with fail
        go_ret2
        exact ⟨⟨_, ret_vi (by rw [HRg.out]; rfl), ownT_of HO2.out (by rw [HRg.out]; rfl)⟩, HB2.out⟩
    · obtain ⟨p, hp⟩ : ∃ p, N - k = p + 1 := ⟨N - k - 1, by omega⟩
      have hpos : decide ((0 : Int) < (n : Int)) = true := by simp; omega
      by_cases hn24 : n < 24
      · have HRf := Lib.hid (HD.out 4 [] (HR.out.trans (by rw [hp]; exact decF_short p cur acc (by rw [HCl.out]; exact hn0) (by rw [HCl.out]; exact hn24))))
        rw [if_neg (by decide)] at HRf
        clear hp
        go_wp2_with fail
        go_ret2
        exact ⟨⟨.slice none 0 0, ret_vi (by rw [HRf.out]), by rw [HRf.out]; exact World.ownsRow_nil _ _ _ _⟩, Hb.out⟩
      · have hC := Hcur.out
        obtain ⟨x1, y1, g1, r1⟩ := RdL.part (P := Try.prog) elemB hC 0 20 (by omega) (by omega)
        obtain ⟨x2, y2, g2, r2⟩ := RdL.part (P := Try.prog) elemB hC 20 24 (by omega) (by omega)
        have hto := slice_to (P := Try.prog) elemB (a := a) (n := n) (cap := c) (hC.spot (by omega)) 20 (by omega)
        have R1 := Lib.hid (show RdB wr (.slice a 20 c) (cur.take 20) from RdL.take hC 20 (by omega))
        have R2 := Lib.hid r2
        have HSum := Lib.hid (fun W (h : RdB W (.slice a 20 c) (cur.take 20)) => isum_any _ _ W h)
        have HEq := Lib.hid (fun va vb W h1 h2 => eqb_any va vb (ck (cur.take 20)) ((cur.drop 20).take 4) W h1 h2)
        rw [show ((20 : Nat) : Int) = 20 from rfl] at hto g2
        rw [show ((24 : Nat) : Int) = 24 from rfl] at g2
        clear g1 r1 r2 hC
        generalize hq : decide (ck (cur.take 20) = (cur.drop 20).take 4) = q at *
        have HQ := Lib.hid hq
        clear hq
        go_wp2_with fail
        go_region_held3 (fun _ => True) (trivial)
          (first | (go_at_call 37; (refine (HSum.out _ (R1.out.below (Below.refl _ _).drew)).mono ?_); rintro e w2 ⟨v2, rfl, hown2, hb2⟩) | (go_at_call 45; (refine (HEq.out _ _ _ hown2.rd (R2.out.below (bstep (Below.refl _ _).drew hb2))).mono ?_); rintro e w3 ⟨rfl, hb3⟩))
        have HB3 := Lib.hid (show Below wr.heap.size wr w3 from bstep (bstep (Below.refl _ _).drew hb2) hb3)
        clear hown2 hb2 hb3 hto g2
        cases q
        · have HRf := Lib.hid (HD.out 5 [] (HR.out.trans (by rw [hp]; exact decF_check p cur acc (by rw [HCl.out]; exact hn0) (by rw [HCl.out]; omega) (of_decide_eq_false HQ.out))))
          rw [if_neg (by decide)] at HRf
          clear hp
          go_wp2_with fail
          go_ret2
          exact ⟨⟨.slice none 0 0, ret_vi (by rw [HRf.out]), by rw [HRf.out]; exact World.ownsRow_nil _ _ _ _⟩, bstep Hb.out HB3.out⟩
        · have HRf := Lib.hid (HR.out.trans (show decF (N - k) cur acc = decF p (cur.drop 24) (acc ++ [dec1 cur]) by rw [hp]; exact decF_step p cur acc (by rw [HCl.out]; exact hn0) (by rw [HCl.out]; omega) (of_decide_eq_true HQ.out)))
          have HP := Lib.hid hp
          have hC := Hcur.out.below (below_drew HB3.out)
          obtain ⟨x2, y2, g2, r2⟩ := RdL.part (P := Try.prog) elemB hC 8 12 (by omega) (by omega)
          obtain ⟨x3, y3, g3, r3⟩ := RdL.part (P := Try.prog) elemB hC 12 16 (by omega) (by omega)
          obtain ⟨x4, y4, g4, r4⟩ := RdL.part (P := Try.prog) elemB hC 16 20 (by omega) (by omega)
          obtain ⟨x5, y5, g5, r5⟩ := RdL.from_ (P := Try.prog) elemB HcW.out 24 (by omega)
          have hto := slice_to (P := Try.prog) elemB (a := a) (n := n) (cap := c) (hC.spot (by omega)) 8 (by omega)
          have HN1 := Lib.hid (num_any _ _ _ (show RdB w3.drew (.slice a 8 c) (cur.take 8) from RdL.take hC 8 (by omega)))
          have HN2 := Lib.hid (num_any _ _ _ r2)
          have HN3 := Lib.hid (num_any _ _ _ r3)
          have HN4 := Lib.hid (num_any _ _ _ r4)
          have R5 := Lib.hid r5
          have l2 := val4_lt (l := (cur.drop 8).take 4) (by rw [List.length_take]; omega)
          have l3 := val4_lt (l := (cur.drop 12).take 4) (by rw [List.length_take]; omega)
          have l4 := val4_lt (l := (cur.drop 16).take 4) (by rw [List.length_take]; omega)
          have l1 := val_lt (cur.take 8)
          have HX := Lib.hid (show dec1 cur = ⟨(val (cur.take 8) : Int), (val ((cur.drop 8).take 4) : Int), (val ((cur.drop 12).take 4) : Int), (val ((cur.drop 16).take 4) : Int)⟩ from rfl)
          rw [show ((8 : Nat) : Int) = 8 from rfl] at hto g2
          rw [show ((12 : Nat) : Int) = 12 from rfl] at g2 g3
          rw [show ((16 : Nat) : Int) = 16 from rfl] at g3 g4
          rw [show ((20 : Nat) : Int) = 20 from rfl] at g4
          rw [show ((24 : Nat) : Int) = 24 from rfl] at g5
          simp only [show 12 - 8 = 4 from rfl, show 16 - 12 = 4 from rfl, show 20 - 16 = 4 from rfl] at g2 g3 g4 HN2 HN3 HN4
          generalize val (cur.take 8) = n1 at *
          generalize val ((cur.drop 8).take 4) = n2 at *
          generalize val ((cur.drop 12).take 4) = n3 at *
          generalize val ((cur.drop 16).take 4) = n4 at *
          have j2 : IntKind.u32.wrap (n2 : Int) = (n2 : Int) := IntWalk.u32_in _ (by omega)
          have j3 : IntKind.i64.wrap (n3 : Int) = (n3 : Int) := IntWalk.i64_in _ (by omega)
          have j4 : IntKind.i64.wrap (n4 : Int) = (n4 : Int) := IntWalk.i64_in _ (by omega)
          have HO3 := Lib.hid (own_keep HO.out (below_drew HB3.out))
          clear hC r2 r3 r4 r5 hp
          go_wp2_with fail
          go_region_held3 (fun _ => True) (trivial)
            (first | (go_at_call 46; (with_reducible refine (HN1.out).mono ?_); rintro e w4 ⟨rfl, rfl⟩) | (go_at_call 46; (with_reducible refine (HN2.out).mono ?_); rintro e w4 ⟨rfl, rfl⟩) | (go_at_call 46; (with_reducible refine (HN3.out).mono ?_); rintro e w4 ⟨rfl, rfl⟩) | (go_at_call 46; (with_reducible refine (HN4.out).mono ?_); rintro e w4 ⟨rfl, rfl⟩) | (refine step_app (by rfl) _ _ _ (by rfl) elemT w.heap.size (by rfl) (HO3.out.alloc _) (by rfl) (Rd.new _ 4 (itC ⟨(n1 : Int), (n2 : Int), (n3 : Int), (n4 : Int)⟩) 36 1 rfl (by decide)) (itsC_one' [⟨(n1 : Int), (n2 : Int), (n3 : Int), (n4 : Int)⟩]) (by unfold maxLen; omega) (by omega) (Nat.le_trans (Nat.le_trans hB HB3.out.size) (by simp)) ?_; intro v5 w5 hown5 hgr5 hv5; clear hv5))
          have HO5 := Lib.hid (ownT_of hown5 (show _ = itsC (acc ++ [dec1 cur]) by rw [HX.out, itsC_append, itsC_one]))
          have HB5 := Lib.hid (own_below ((Hb.out.trans ((below_drew HB3.out).mono hB)).alloc (Nat.le_trans hB HB3.out.size) _) (HO3.out.alloc _) (Nat.le_trans (Nat.le_trans hB HB3.out.size) (by simp)) hgr5)
          clear hown5 hgr5 hto g2 g3 g4 j2 j3 j4
          go_wp2_with fail
          refine ⟨⟨k + 1, n - 24, x5, y5, acc ++ [dec1 cur], rfl, by omega, ?_, HO5.out, by rw [List.length_append, HOl.out]; rfl, ?_, HB5.out⟩, by simp [slen]; omega⟩
          · rw [show 24 * (k + 1) = 24 * k + 24 by omega, ← List.drop_drop, HcE.out]; exact R5.out
          · rw [HRf.out, show 24 * (k + 1) = 24 * k + 24 by omega, ← List.drop_drop, HcE.out, show N - (k + 1) = p by have := HP.out; omega]
end Go.Proofs.Ytbfflgkijiggfaa
