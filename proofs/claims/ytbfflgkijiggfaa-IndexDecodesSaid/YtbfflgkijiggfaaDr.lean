/- The walk over the reference's Decode. -/
import Derived.Test.YtbfflgkijiggfaaDe
namespace Go.Proofs.Ytbfflgkijiggfaa
open Go.RowKit

set_option maxHeartbeats 1000000 in
theorem rdec_any (v : Value) (b : List UInt8) (w : World) (h : RdB w v b) (hs : b.length ≤ 1000000) :
    Calls Try.prog 22 #[v] w fun e w' => (∃ v', e = .returned (.tuple #[v', .int .i64 (dec b).1]) ∧ OwnT w' w.heap.size v' (dec b).2) ∧ Below w.heap.size w w' := by
  obtain ⟨a0, c0, rfl, _, _⟩ := h.shape0
  have HD := Lib.hid (fun r l => dec_of (b := b) (r := r) (l := l))
  generalize hN : b.length = N at *
  have HN := Lib.hid hN
  have HS0 := Lib.hid (show decF N b [] = decF N (b.drop 0) [] from rfl)
  generalize decF N b [] = R at *
  generalize dec b = D at *
  have Hr := Lib.hid h
  clear h hN
  go_enter Try.func22, Try.ntmps22
  go_wp2_with fail
  go_loopw [4, 5] (fun lv av wr => ∃ (k at_ : Nat) (acc : List It), av = .int .i64 (at_ : Int) ∧ at_ = 24 * k ∧ at_ ≤ N + 23 ∧ OwnT wr w.heap.size lv acc ∧ acc.length = k ∧ R = decF (N - k) (b.drop (24 * k)) acc ∧ Below w.heap.size w wr) (fun _ av _ => N + 24 - (intOf av).toNat)
  case atStart => exact ⟨0, 0, [], rfl, rfl, by omega, World.ownsRow_nil _ _ _ _, rfl, HS0.out, Below.refl _ _⟩
  case round =>
    obtain ⟨k, at_, acc, rfl, hat, hle, hown, hacc, hR, hb⟩ := hrel
    have hcl : (b.drop (24 * k)).length = N - at_ := by rw [List.length_drop, HN.out, hat]
    have HAt := Lib.hid hat
    have hkb : 24 * k ≤ N + 23 := by omega
    rw [← hat] at hR hcl
    have hka : k ≤ at_ := by omega
    obtain ⟨oa, oc, rfl, _, _, ho3⟩ := own_form hown
    clear ho3
    rw [hacc] at hown ⊢
    have HO := Lib.hid (show wr.ownsRow w.heap.size 36 4 (.slice oa k oc) k (itsC acc) by rw [← hacc]; rw [← hacc] at hown; exact hown)
    have HOl := Lib.hid hacc
    have HR := Lib.hid hR
    have Hb := Lib.hid hb
    have hB := hb.size
    generalize hce : b.drop at_ = cur at *
    have HcE := Lib.hid hce
    have HCl := Lib.hid hcl
    clear hce hown hR hb hcl hacc hat
    by_cases hn0 : ¬ at_ < N
    · have HRf := Lib.hid (HD.out _ _ (HR.out.trans (decF_nil _ _ _ (by rw [HCl.out]; omega))))
      rw [if_pos rfl] at HRf
      have HV := Lib.hid (rvld_any _ acc wr (rd_rdT (own_rd HO.out)))
      go_wp2_with fail
      refine HV.out.mono ?_; rintro e w2 ⟨rfl, hb2⟩
      have HB2 := Lib.hid (bstep Hb.out hb2)
      have HO2 := Lib.hid (own_keep HO.out hb2)
      clear hb2
      cases hv : vldB acc
      · rw [hv] at HRf
        have HRg := Lib.hid HRf.out
        clear hv HRf
        go_wp2_with fail
        go_ret2
        exact ⟨⟨.slice none 0 0, ret_vi (by rw [HRg.out]; rfl), by rw [HRg.out]; exact World.ownsRow_nil _ _ _ _⟩, HB2.out⟩
      · rw [hv] at HRf
        have HRg := Lib.hid HRf.out
        clear hv HRf
        go_wp2_with fail
        go_ret2
        exact ⟨⟨_, ret_vi (by rw [HRg.out]; rfl), ownT_of HO2.out (by rw [HRg.out]; rfl)⟩, HB2.out⟩
    · obtain ⟨p, hp⟩ : ∃ p, N - k = p + 1 := ⟨N - k - 1, by omega⟩
      by_cases hn24 : N - at_ < 24
      · have HRf := Lib.hid (HD.out 4 [] (HR.out.trans (by rw [hp]; exact decF_short p cur acc (by rw [HCl.out]; omega) (by rw [HCl.out]; exact hn24))))
        rw [if_neg (by decide)] at HRf
        clear hp
        go_wp2_with fail
        go_ret2
        exact ⟨⟨.slice none 0 0, ret_vi (by rw [HRf.out]), by rw [HRf.out]; exact World.ownsRow_nil _ _ _ _⟩, Hb.out⟩
      · have hge : at_ + 24 ≤ N := by omega
        obtain ⟨x1, y1, g1, r1⟩ := RdL.part (P := Try.prog) elemB Hr.out at_ (at_ + 24) (by omega) hge
        rw [show at_ + 24 - at_ = 24 by omega, HcE.out] at r1
        simp only [show at_ + 24 - at_ = 24 by omega, Int.natCast_add] at g1
        rw [show ((24 : Nat) : Int) = 24 from rfl] at g1
        have e1 : (cur.take 24).take 20 = cur.take 20 := by rw [List.take_take]; rfl
        have e2 : (cur.take 24).drop 20 = (cur.drop 20).take 4 := by rw [List.drop_take]
        have e3 : (cur.take 24).take 8 = cur.take 8 := by rw [List.take_take]; rfl
        have e4 : ((cur.take 24).drop 8).take 4 = (cur.drop 8).take 4 := by rw [List.drop_take, List.take_take]; rfl
        have e5 : ((cur.take 24).drop 12).take 4 = (cur.drop 12).take 4 := by rw [List.drop_take, List.take_take]; rfl
        have e6 : ((cur.take 24).drop 16).take 4 = (cur.drop 16).take 4 := by rw [List.drop_take, List.take_take]; rfl
        obtain ⟨x2, y2, g2, r2⟩ := RdL.from_ (P := Try.prog) elemB r1 20 (by omega)
        obtain ⟨x3, y3, g3, r3⟩ := RdL.part (P := Try.prog) elemB r1 8 12 (by omega) (by omega)
        obtain ⟨x4, y4, g4, r4⟩ := RdL.part (P := Try.prog) elemB r1 12 16 (by omega) (by omega)
        obtain ⟨x5, y5, g5, r5⟩ := RdL.part (P := Try.prog) elemB r1 16 20 (by omega) (by omega)
        have hbd := (RdL.bounds r1).2.1
        have hto := slice_to (P := Try.prog) elemB (a := x1) (n := 24) (cap := y1) (r1.spot (by omega)) 20 (by omega)
        have hto8 := slice_to (P := Try.prog) elemB (a := x1) (n := 24) (cap := y1) (r1.spot (by omega)) 8 (by omega)
        have r6 := RdL.take r1 20 (by omega)
        have r7 := RdL.take r1 8 (by omega)
        rw [e1] at r6
        rw [e2] at r2
        rw [e3] at r7
        simp only [show 12 - 8 = 4 from rfl, show 16 - 12 = 4 from rfl, show 20 - 16 = 4 from rfl, show 24 - 20 = 4 from rfl] at g2 g3 g4 g5 r2 r3 r4 r5
        rw [e4] at r3
        rw [e5] at r4
        rw [e6] at r5
        rw [show ((8 : Nat) : Int) = 8 from rfl] at hto8 g3
        rw [show ((12 : Nat) : Int) = 12 from rfl] at g3 g4
        rw [show ((16 : Nat) : Int) = 16 from rfl] at g4 g5
        rw [show ((20 : Nat) : Int) = 20 from rfl] at g5 g2 hto
        have R2 := Lib.hid r2
        have R3 := Lib.hid r3
        have R4 := Lib.hid r4
        have R5 := Lib.hid r5
        have R6 := Lib.hid r6
        have R7 := Lib.hid r7
        have HCk := Lib.hid (show ∀ W, RdB W (.slice x1 20 y1) (cur.take 20) → Calls Try.prog 20 #[.slice x1 20 y1] W (fun e w' => ∃ v', e = .returned v' ∧ OwnB w' W.heap.size v' (ck (cur.take 20)) ∧ Below W.heap.size W w') from fun W h => rcheck_any (.slice x1 20 y1) (cur.take 20) W h)
        have HST := Lib.hid (fun W v l (h : RdB W v l) => run_to_string (P := Try.prog) 27 9 5 Try.underlying27 Try.underlying5 Try.underlying9 h)
        have HK2 := Lib.hid (fun W (h : Below w.heap.size w W) => HST.out W _ _ (R2.out.below h))
        have HDs := Lib.hid (decF_step p cur acc (by rw [HCl.out]; omega) (by rw [HCl.out]; omega))
        have HDc := Lib.hid (decF_check p cur acc (by rw [HCl.out]; omega) (by rw [HCl.out]; omega))
        clear r1 r2 r3 r4 r5 r6 r7 e1 e2 e3 e4 e5 e6
        have HX := Lib.hid (show dec1 cur = ⟨(val (cur.take 8) : Int), (val ((cur.drop 8).take 4) : Int), (val ((cur.drop 12).take 4) : Int), (val ((cur.drop 16).take 4) : Int)⟩ from rfl)
        generalize hs1 : ck (cur.take 20) = s1 at *
        generalize hs2 : (cur.drop 20).take 4 = s2 at *
        have HS1 := Lib.hid hs1
        clear hs1 hs2
        have hpos : N - at_ ≠ 0 := by omega
        have hss : s1 = s2 ∨ s1 ≠ s2 := Classical.em _
        rcases hss with hss | hss
        · subst hss
          have HRf := Lib.hid (HR.out.trans (show decF (N - k) cur acc = decF p (cur.drop 24) (acc ++ [dec1 cur]) by rw [hp]; exact HDs.out rfl))
          have HP := Lib.hid hp
          clear hp
          go_wp2_with fail
          have k3 := HK2.out _ Hb.out.drew
          go_region_with ((go_at_call 20; (refine (HCk.out _ (R6.out.below Hb.out.drew)).mono ?_); rintro e w2 ⟨v2, rfl, hown2, hb2⟩; obtain ⟨a2, c2, rfl, _, _, _⟩ := own_form hown2; have k2 := HST.out _ _ _ hown2.rd; have k4 := HK2.out _ (bup Hb.out hB (bstep (Below.refl _ _).drew hb2))))
          all_goals
            have HB3 := Lib.hid (bup Hb.out hB (bstep (Below.refl wr.heap.size wr).drew hb2))
            have HO3 := Lib.hid (own_keep HO.out (below_drew (bstep (Below.refl wr.heap.size wr).drew hb2)))
            have hB3 : w.heap.size ≤ w2.heap.size := HB3.out.size
            clear k2 k3 k4 hown2 hb2 hto g2
            have l2 := val4_lt (l := (cur.drop 8).take 4) (by rw [List.length_take]; omega)
            have l3 := val4_lt (l := (cur.drop 12).take 4) (by rw [List.length_take]; omega)
            have l4 := val4_lt (l := (cur.drop 16).take 4) (by rw [List.length_take]; omega)
            have l1 := val_lt (cur.take 8)
            have HN1 := Lib.hid (rval_any _ _ _ (R7.out.below (below_drew HB3.out)))
            have HN2 := Lib.hid (rval_any _ _ _ (R3.out.below (below_drew HB3.out)))
            have HN3 := Lib.hid (rval_any _ _ _ (R4.out.below (below_drew HB3.out)))
            have HN4 := Lib.hid (rval_any _ _ _ (R5.out.below (below_drew HB3.out)))
            generalize val (cur.take 8) = n1 at *
            generalize val ((cur.drop 8).take 4) = n2 at *
            generalize val ((cur.drop 12).take 4) = n3 at *
            generalize val ((cur.drop 16).take 4) = n4 at *
            have j2 : IntKind.u32.wrap (n2 : Int) = (n2 : Int) := IntWalk.u32_in _ (by omega)
            have j3 : IntKind.i64.wrap (n3 : Int) = (n3 : Int) := IntWalk.i64_in _ (by omega)
            have j4 : IntKind.i64.wrap (n4 : Int) = (n4 : Int) := IntWalk.i64_in _ (by omega)
            go_wp2_with fail
            go_region_held3 (fun _ => True) (trivial)
              (first | (go_at_call 47; (with_reducible refine (HN1.out).mono ?_); rintro e w4 ⟨rfl, rfl⟩) | (go_at_call 47; (with_reducible refine (HN2.out).mono ?_); rintro e w4 ⟨rfl, rfl⟩) | (go_at_call 47; (with_reducible refine (HN3.out).mono ?_); rintro e w4 ⟨rfl, rfl⟩) | (go_at_call 47; (with_reducible refine (HN4.out).mono ?_); rintro e w4 ⟨rfl, rfl⟩) | (refine step_app (by rfl) _ _ _ (by rfl) elemT w.heap.size (by rfl) (HO3.out.alloc _) (by rfl) (Rd.new _ 4 (itC ⟨(n1 : Int), (n2 : Int), (n3 : Int), (n4 : Int)⟩) 36 1 rfl (by decide)) (itsC_one' [⟨(n1 : Int), (n2 : Int), (n3 : Int), (n4 : Int)⟩]) (by unfold maxLen; omega) (by omega) (Nat.le_trans hB3 (by simp)) ?_; intro v5 w5 hown5 hgr5 hv5; clear hv5))
            have HO5 := Lib.hid (ownT_of hown5 (show _ = itsC (acc ++ [dec1 cur]) by rw [HX.out, itsC_append, itsC_one]))
            have HB5 := Lib.hid (own_below ((below_drew HB3.out).alloc hB3 _) (HO3.out.alloc _) (Nat.le_trans hB3 (by simp)) hgr5)
            clear hown5 hgr5 hto8 g3 g4 g5 j2 j3 j4
            go_wp2_with fail
            refine ⟨⟨k + 1, at_ + 24, acc ++ [dec1 cur], by go_num, by rw [HAt.out]; omega, by omega, HO5.out, by rw [List.length_append, HOl.out]; rfl, ?_, HB5.out⟩, by simp [intOf]; omega⟩
            rw [HRf.out, show 24 * (k + 1) = at_ + 24 by rw [HAt.out]; omega, ← List.drop_drop, HcE.out, show N - (k + 1) = p by have := HP.out; omega]
        · have HRf := Lib.hid (HD.out 5 [] (HR.out.trans (show decF (N - k) cur acc = (5, []) by rw [hp]; exact HDc.out hss)))
          rw [if_neg (by decide)] at HRf
          have hbe : (s1 == s2) = false := beq_eq_false_iff_ne.2 hss
          clear hp hss
          go_wp2_with fail
          have k3 := HK2.out _ Hb.out.drew
          go_region_with ((go_at_call 20; (refine (HCk.out _ (R6.out.below Hb.out.drew)).mono ?_); rintro e w2 ⟨v2, rfl, hown2, hb2⟩; obtain ⟨a2, c2, rfl, _, _, _⟩ := own_form hown2; have k2 := HST.out _ _ _ hown2.rd; have k4 := HK2.out _ (bup Hb.out hB (bstep (Below.refl _ _).drew hb2))))
          all_goals
            have HB3 := Lib.hid (bup Hb.out hB (bstep (Below.refl wr.heap.size wr).drew hb2))
            clear k2 k3 k4 hown2 hb2
            go_wp2_with fail
            go_ret2
            exact ⟨⟨.slice none 0 0, ret_vi (by rw [HRf.out]), by rw [HRf.out]; exact World.ownsRow_nil _ _ _ _⟩, HB3.out⟩
end Go.Proofs.Ytbfflgkijiggfaa
