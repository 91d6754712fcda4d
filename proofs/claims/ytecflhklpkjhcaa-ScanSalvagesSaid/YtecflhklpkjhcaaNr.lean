/- The reference's Decode of a needle: the walk. -/
import Derived.Test.YtecflhklpkjhcaaNe
namespace Go.Proofs.Ytecflhklpkjhcaa
open Go.RowKit

set_option maxRecDepth 100000 in
set_option maxHeartbeats 4000000 in
theorem rdecode_any (v : Value) (b : List UInt8) (w : World) (h : RdB w v b) (hs : b.length ≤ 1000000) : Calls Try.prog 42 #[v] w (NRes w b) := by
  obtain ⟨a, cap, rfl, h1, h2⟩ := h.shape0
  have Hw0 := Lib.hid h
  have HBZ := Lib.hid (show Below w.heap.size w (w.alloc zeroN) from (Below.refl _ _).alloc (Nat.le_refl _) _)
  have HBAD := Lib.hid (fun (r : Int) w' (hr : ndec b = (r, nd0, 0)) (hb : Below w.heap.size w w') => show NRes w b (.returned (.tuple #[ndV nd0 (.slice none 0 0), .int .i64 0, .int .i64 r])) w' from
    ⟨⟨.slice none 0 0, by rw [hr]; rfl, by rw [hr]; exact World.ownsRow_nil _ _ _ _⟩, hb⟩)
  have Hr := Lib.hid (RdL.below h HBZ.out)
  generalize hR : NRes w b = R at *
  have HR := Lib.hid hR
  clear hR
  by_cases h20 : b.length < 20
  · have HX := Lib.hid (HBAD.out 4 (w.alloc zeroN) (by unfold ndec; rw [if_pos h20]) HBZ.out)
    have hd : decide ((b.length : Int) < 20) = true := by simp; omega
    clear h HBAD HBZ Hr HR
    go_enter Try.func42, Try.ntmps42
    go_wp2_with fail
    exact bodyPost_ret (v := .tuple #[ndV nd0 (.slice none 0 0), .int .i64 0, .int .i64 4]) (by simp [results, Try.results42, go_sem, nd0]) rfl HX.out
  · have hd : decide ((b.length : Int) < 20) = false := by simp; omega
    obtain ⟨x1, y1, g1, r1⟩ := RdL.part (P := Try.prog) elemB Hr.out 16 20 (by omega) (by omega)
    rw [show ((16 : Nat) : Int) = 16 from rfl, show ((20 : Nat) : Int) = 20 from rfl] at g1
    have HN := Lib.hid (rval_any _ _ _ r1)
    have hnl := val4_lt (l := (b.drop 16).take 4) (by rw [List.length_take]; omega)
    have HF := Lib.hid (hform_nat b)
    have HNL := Lib.hid (show val ((b.drop 16).take (20 - 16)) = nlen b from rfl)
    have HNL2 := Lib.hid (show nlen b = nlen b from rfl)
    simp only [show 20 - 16 = 4 from rfl] at HN HNL g1
    rw [HNL.out] at HN
    change nlen b < _ at hnl
    obtain ⟨ab, off, rfl, e0⟩ := RdB.at Hr.out (show 0 < b.length by omega)
    obtain ⟨_, _, e, e1⟩ := RdB.at Hr.out (show 1 < b.length by omega)
    injection e with e; injection e with ea eb; subst ea eb
    obtain ⟨_, _, e, e2⟩ := RdB.at Hr.out (show 2 < b.length by omega)
    injection e with e; injection e with ea eb; subst ea eb
    obtain ⟨_, _, e, e3⟩ := RdB.at Hr.out (show 3 < b.length by omega)
    injection e with e; injection e with ea eb; subst ea eb
    obtain ⟨q, hq⟩ : ∃ q, decide (hform b) = q := ⟨_, rfl⟩
    have HQ := Lib.hid hq
    obtain ⟨n0, hn0⟩ : ∃ n, (bat b 0).toNat = n := ⟨_, rfl⟩
    obtain ⟨n1, hn1⟩ : ∃ n, (bat b 1).toNat = n := ⟨_, rfl⟩
    obtain ⟨n2, hn2, hn2l⟩ : ∃ n, (bat b 2).toNat = n ∧ n < 256 := ⟨_, rfl, (bat b 2).toNat_lt⟩
    obtain ⟨n3, hn3⟩ : ∃ n, (bat b 3).toNat = n := ⟨_, rfl⟩
    obtain ⟨nl, hnl'⟩ : ∃ n, nlen b = n := ⟨_, rfl⟩
    rw [hn0] at e0
    rw [hn1] at e1
    rw [hn2] at e2
    rw [hn3] at e3
    rw [hn0, hn1, hn2, hn3, hnl'] at HF
    rw [hnl'] at HN hnl
    have HN2 := Lib.hid hn2
    have HNl := Lib.hid hnl'
    have HQ2 := Lib.hid (show q = decide (n0 = 78 ∧ n1 = 165 ∧ n2 ≤ 1 ∧ n3 = 0 ∧ nl ≤ 4096 ∧ (n2 = 1 → nl = 0)) by rw [← hq]; exact decide_eq_decide.2 HF.out)
    clear h hq hn0 hn1 hn2 hn3 hnl' HF HNL HNL2 r1
    go_enter Try.func42, Try.ntmps42
    go_wp2_with fail
    refine HN.out.mono ?_; rintro e w1 ⟨rfl, rfl⟩
    go_upto_region 4 with fail
    go_cut [51] (fun s wx => s = .bool (!q) ∧ w.alloc zeroN = wx)
    case first =>
      simp only [Nat.add_zero] at e0
      by_cases c0 : n0 = 78
      · have t0 : ((n0 : Int) != 78) = false := by rw [bne_eq_false_iff_eq]; omega
        by_cases c1 : n1 = 165
        · have t1 : ((n1 : Int) != 165) = false := by rw [bne_eq_false_iff_eq]; omega
          by_cases c2 : n2 ≤ 1
          · have t2 : decide ((1 : Int) < (n2 : Int)) = false := decide_eq_false (by omega)
            by_cases c3 : n3 = 0
            · have t3 : ((n3 : Int) != 0) = false := by rw [bne_eq_false_iff_eq]; omega
              by_cases c4 : nl ≤ 4096
              · have t4 : decide ((4096 : Int) < (nl : Int)) = false := decide_eq_false (by omega)
                by_cases c5 : n2 = 1
                · have t5 : ((n2 : Int) == 1) = true := beq_iff_eq.2 (by omega)
                  by_cases c6 : nl = 0
                  · have t6 : decide (0 < nl) = false := decide_eq_false (by omega)
                    have HQv := Lib.hid (show q = true by rw [HQ2.out]; exact decide_eq_true (by omega))
                    go_wp2_with fail
                    go_meet
                    case rel => exact ⟨by rw [HQv.out]; rfl, rfl⟩
                  · have t6 : decide (0 < nl) = true := decide_eq_true (by omega)
                    have HQv := Lib.hid (show q = false by rw [HQ2.out]; exact decide_eq_false (by omega))
                    go_wp2_with fail
                    go_meet
                    case rel => exact ⟨by rw [HQv.out]; rfl, rfl⟩
                · have t5 : ((n2 : Int) == 1) = false := beq_eq_false_iff_ne.2 (by omega)
                  have HQv := Lib.hid (show q = true by rw [HQ2.out]; exact decide_eq_true (by omega))
                  go_wp2_with fail
                  go_meet
                  case rel => exact ⟨by rw [HQv.out]; rfl, rfl⟩
              · have t4 : decide ((4096 : Int) < (nl : Int)) = true := decide_eq_true (by omega)
                have HQv := Lib.hid (show q = false by rw [HQ2.out]; exact decide_eq_false (by omega))
                go_wp2_with fail
                go_meet
                case rel => exact ⟨by rw [HQv.out]; rfl, rfl⟩
            · have t3 : ((n3 : Int) != 0) = true := by rw [bne_iff_ne]; omega
              have HQv := Lib.hid (show q = false by rw [HQ2.out]; exact decide_eq_false (by omega))
              go_wp2_with fail
              go_meet
              case rel => exact ⟨by rw [HQv.out]; rfl, rfl⟩
          · have t2 : decide ((1 : Int) < (n2 : Int)) = true := decide_eq_true (by omega)
            have HQv := Lib.hid (show q = false by rw [HQ2.out]; exact decide_eq_false (by omega))
            go_wp2_with fail
            go_meet
            case rel => exact ⟨by rw [HQv.out]; rfl, rfl⟩
        · have t1 : ((n1 : Int) != 165) = true := by rw [bne_iff_ne]; omega
          have HQv := Lib.hid (show q = false by rw [HQ2.out]; exact decide_eq_false (by omega))
          go_wp2_with fail
          go_meet
          case rel => exact ⟨by rw [HQv.out]; rfl, rfl⟩
      · have t0 : ((n0 : Int) != 78) = true := by rw [bne_iff_ne]; omega
        have HQv := Lib.hid (show q = false by rw [HQ2.out]; exact decide_eq_false (by omega))
        go_wp2_with fail
        go_meet
        case rel => exact ⟨by rw [HQv.out]; rfl, rfl⟩
    case rest =>
      obtain ⟨rfl, rfl⟩ := hcut
      cases q with
      | false =>
        have HX := Lib.hid (HBAD.out 3 (w.alloc zeroN) (by unfold ndec; rw [if_neg h20, if_pos (of_decide_eq_false HQ.out)]) HBZ.out)
        go_wp2_with fail
        exact bodyPost_ret (v := .tuple #[ndV nd0 (.slice none 0 0), .int .i64 0, .int .i64 3]) (by simp [results, Try.results42, go_sem, nd0]) rfl HX.out
      | true =>
        have hf := of_decide_eq_true HQ.out
        have hnl4 : nl ≤ 4096 := by rw [← HNl.out]; exact hf.2.2.2.2.1
        have HSz := Lib.hid (fun w => rsize_any nl w (by omega))
        rw [szN_of hnl4] at HSz
        have hszb := nsz_bounds nl
        have HPre := Lib.hid (show ∀ r : Int × Nd × Nat, (if b.length < nsz nl then ((4 : Int), nd0, 0) else if ck (b.take (20 + nl)) ≠ (b.drop (20 + nl)).take 4 then (5, nd0, 0) else if ¬ (npad b).all (· == 0) then (3, nd0, 0) else (0, nread b, nsz nl)) = r → ndec b = r from fun r h => by
          rw [← h, ← HNl.out]; unfold ndec; rw [if_neg h20, if_neg (fun e => e hf)])
        generalize hsz : nsz nl = sz at *
        have HSZ := Lib.hid hsz
        have HFo := Lib.hid hf
        clear hsz hf
        go_wp2_with fail
        refine (HSz.out _).mono ?_; rintro e w2 ⟨rfl, rfl⟩
        by_cases hlt : b.length < sz
        · have HX := Lib.hid (HBAD.out 4 (w.alloc zeroN) (HPre.out _ (by rw [if_pos hlt])) HBZ.out)
          have hd2 : decide (b.length < sz) = true := decide_eq_true hlt
          go_wp2_with fail
          exact bodyPost_ret (v := .tuple #[ndV nd0 (.slice none 0 0), .int .i64 0, .int .i64 4]) (by simp [results, Try.results42, go_sem, nd0]) rfl HX.out
        · have hd2 : decide (b.length < sz) = false := decide_eq_false hlt
          have hto := slice_to (P := Try.prog) elemB (a := some ⟨ab, off, none⟩) (n := b.length) (cap := cap) (RdL.spot Hr.out (by omega)) (20 + nl) (by omega)
          have e20 : ((20 + nl : Nat) : Int) = 20 + (nl : Int) := by omega
          have e24 : ((24 + nl : Nat) : Int) = 20 + (nl : Int) + 4 := by omega
          rw [e20] at hto
          have j1 : IntKind.i64.wrap (20 + (nl : Int) + 4) = 20 + (nl : Int) + 4 := IntWalk.i64_in _ (by omega)
          obtain ⟨W0, hW0⟩ : ∃ W0, w.alloc zeroN = W0 := ⟨_, rfl⟩
          have HBZ0 := Lib.hid (show Below w.heap.size w W0 by rw [← hW0]; exact HBZ.out)
          have HR0 := Lib.hid (show RdB W0 (.slice (some ⟨ab, off, none⟩) b.length cap) b by rw [← hW0]; exact Hr.out)
          have Z0 : W0.cell? ⟨w.heap.size, 0, none⟩ = some (.int .u64 0) := by rw [← hW0]; simp
          have Z1 : W0.cell? ⟨w.heap.size, 1, none⟩ = some (.int .u32 0) := by rw [← hW0]; simp
          have Z2 : W0.cell? ⟨w.heap.size, 2, none⟩ = some (.bool false) := by rw [← hW0]; simp
          have Z3 : W0.cell? ⟨w.heap.size, 3, none⟩ = some (.slice none 0 0) := by rw [← hW0]; simp
          have ZF : ∀ i, W0.frozen? ⟨w.heap.size, i, none⟩ = false := fun i => by rw [← hW0]; simp
          have HZ0 := Lib.hid Z0
          have HZ1 := Lib.hid Z1
          have HZ2 := Lib.hid Z2
          have HZ3 := Lib.hid Z3
          have HZF := Lib.hid ZF
          have hzz : w.heap.size < W0.heap.size := World.block_lt_of_cell? _ _ Z0
          obtain ⟨x2, y2, g2, r2⟩ := RdL.part (P := Try.prog) elemB HR0.out (20 + nl) (24 + nl) (by omega) (by omega)
          rw [e20, e24] at g2
          have hl2 : 24 + nl - (20 + nl) = 4 := by omega
          rw [hl2] at g2 r2
          have R2 := Lib.hid r2
          have R1 := Lib.hid (show RdB W0 (.slice (some ⟨ab, off, none⟩) (20 + nl) cap) (b.take (20 + nl)) from RdL.take HR0.out (20 + nl) (by omega))
          have HCk := Lib.hid (fun W h => rcheck_any (.slice (some ⟨ab, off, none⟩) (20 + nl) cap) (b.take (20 + nl)) W h)
          have HST := Lib.hid (fun W v l (h : RdB W v l) => run_to_string (P := Try.prog) 23 9 5 Try.underlying23 Try.underlying5 Try.underlying9 h)
          have HK2 := Lib.hid (fun W (h : Below W0.heap.size W0 W) => HST.out W _ _ (RdL.below R2.out h))
          obtain ⟨q2, hq2⟩ : ∃ q2, decide (ck (b.take (20 + nl)) = (b.drop (20 + nl)).take 4) = q2 := ⟨_, rfl⟩
          have HQ3 := Lib.hid hq2
          clear Z0 Z1 Z2 Z3 ZF r2 hq2 e20 e24 hl2
          generalize hs1 : ck (b.take (20 + nl)) = s1 at *
          generalize hs2 : (b.drop (20 + nl)).take 4 = s2 at *
          clear hs1 hs2
          go_upto_region 9 with fail
          clear hW0
          go_cut [75] (fun s wx => s = .bool (!q2) ∧ Below W0.heap.size W0 wx)
          case first =>
            have k3 := HK2.out _ (Below.refl _ _).drew
            rcases Classical.em (s1 = s2) with hss | hss
            · subst hss
              have HQv := Lib.hid (show q2 = true by rw [← HQ3.out]; simp)
              go_region_with ((go_at_call 45; (refine (HCk.out _ (RdL.below R1.out (Below.refl _ _).drew)).mono ?_); rintro e w3 ⟨v3, rfl, hown3, hb3⟩; obtain ⟨a3, c3, rfl, _, _, _⟩ := own_form hown3; have k2 := HST.out _ _ _ hown3.rd; have k4 := HK2.out _ (bstep (Below.refl _ _).drew hb3)))
              all_goals
                have HB3 := bstep (Below.refl W0.heap.size W0).drew hb3
                clear k2 k3 k4 hown3
                go_wp2_with fail
                go_meet
                case rel => exact ⟨by rw [HQv.out]; rfl, HB3⟩
            · have hbe : (s1 == s2) = false := beq_eq_false_iff_ne.2 hss
              have HQv := Lib.hid (show q2 = false by rw [← HQ3.out]; exact decide_eq_false hss)
              clear hss
              go_region_with ((go_at_call 45; (refine (HCk.out _ (RdL.below R1.out (Below.refl _ _).drew)).mono ?_); rintro e w3 ⟨v3, rfl, hown3, hb3⟩; obtain ⟨a3, c3, rfl, _, _, _⟩ := own_form hown3; have k2 := HST.out _ _ _ hown3.rd; have k4 := HK2.out _ (bstep (Below.refl _ _).drew hb3)))
              all_goals
                have HB3 := bstep (Below.refl W0.heap.size W0).drew hb3
                clear k2 k3 k4 hown3
                go_wp2_with fail
                go_meet
                case rel => exact ⟨by rw [HQv.out]; rfl, HB3⟩
          case rest =>
            obtain ⟨rfl, hbw⟩ := hcut
            obtain ⟨W5, rfl⟩ : ∃ W5, W5 = wc := ⟨_, rfl⟩
            have Z0 := Below.keeps hbw _ _ HZ0.out
            have Z1 := Below.keeps hbw _ _ HZ1.out
            have Z2 := Below.keeps hbw _ _ HZ2.out
            have Z3 := Below.keeps hbw _ _ HZ3.out
            have hzl : w.heap.size < W5.heap.size := World.block_lt_of_cell? _ _ Z0
            have ZF5 := fun i => (hbw.frozen (p := ⟨w.heap.size, i, none⟩) hzz).trans (HZF.out i)
            have F0 := ZF5 0
            have F1 := ZF5 1
            have F2 := ZF5 2
            have F3 := ZF5 3
            have HB5 := Lib.hid (bstep HBZ0.out hbw)
            have R5 := Lib.hid (RdL.below HR0.out hbw)
            clear ZF5 hbw R1 R2 HCk HST HK2 HZ0 HZ1 HZ2 HZ3 HZF g2 HR0 HBZ0 hto
            cases q2
            · go_wp2_with fail
              exact bodyPost_ret (v := .tuple #[ndV nd0 (.slice none 0 0), .int .i64 0, .int .i64 5]) (by simp [results, Try.results42, go_sem, nd0, Z0, Z1, Z2, Z3]) rfl (HBAD.out 5 _ (HPre.out _ (by rw [if_neg hlt, if_pos (of_decide_eq_false HQ3.out)])) ((((HB5.out.setCell (Nat.le_refl _) _).setCell (Nat.le_refl _) _).setCell (Nat.le_refl _) _).setCell (Nat.le_refl _) _))
            · have HPd := Lib.hid (show npad b = (b.drop (24 + nl)).take (sz - (24 + nl)) by unfold npad; rw [HNl.out, HSZ.out])
              go_wp2_with fail
              go_loop [8] (fun iv => ∃ p : Nat, iv = .int .i64 (p : Int) ∧ 24 + nl ≤ p ∧ p ≤ sz ∧ Hid (∀ j, 24 + nl ≤ j → j < p → bat b j = 0)) (fun iv => sz - (intOf iv).toNat)
              case atStart => exact ⟨24 + nl, by go_num, by omega, by omega, fun j h1 h2 => by omega⟩
              case round =>
                obtain ⟨p, rfl, hp1, hp2, hz⟩ := hrel
                by_cases hlm : p < sz
                · obtain ⟨_, _, e, c0⟩ := RdB.at R5.out (show p < b.length by omega)
                  injection e with e; injection e with ea eb; subst ea eb
                  obtain ⟨z, hzv⟩ : ∃ z, (bat b p).toNat = z := ⟨_, rfl⟩
                  rw [hzv] at c0
                  have HZZ := Lib.hid hzv
                  have ib : (p : Int) < (b.length : Int) := by omega
                  clear hzv
                  by_cases hz0 : z = 0
                  · have hd3 : ((z : Int) != 0) = false := by rw [bne_eq_false_iff_eq]; omega
                    have HZ1 := Lib.hid (show bat b p = 0 from by rw [← UInt8.toNat_inj, HZZ.out, hz0]; rfl)
                    clear hz0
                    go_wp2_with fail
                    exact ⟨⟨p + 1, by go_num, by omega, by omega, fun j h1 h2 => by
                      by_cases e : j = p
                      · rw [e]; exact HZ1.out
                      · exact hz.out j h1 (by omega)⟩, by simp [intOf]; omega⟩
                  · have hd3 : ((z : Int) != 0) = true := by rw [bne_iff_ne]; omega
                    have HX := Lib.hid (show ¬ (npad b).all (· == 0) = true from fun h => by
                      rw [HPd.out, List.all_eq_true] at h
                      have hb := h (bat ((b.drop (24 + nl)).take (sz - (24 + nl))) (p - (24 + nl))) (by unfold bat; rw [List.getD_eq_getElem?_getD, List.getElem?_eq_getElem (by rw [List.length_take, List.length_drop]; omega)]; exact List.getElem_mem _)
                      rw [bat_take (by omega), bat_drop, show 24 + nl + (p - (24 + nl)) = p by omega] at hb
                      simp at hb
                      apply hz0; rw [← HZZ.out, hb]; rfl)
                    clear hz0
                    go_wp2_with fail
                    exact bodyPost_ret (v := .tuple #[ndV nd0 (.slice none 0 0), .int .i64 0, .int .i64 3]) (by simp [results, Try.results42, go_sem, nd0, Z0, Z1, Z2, Z3]) rfl (HBAD.out 3 _ (HPre.out _ (by rw [if_neg hlt, if_neg (fun e => e (of_decide_eq_true HQ3.out)), if_pos HX.out])) ((((HB5.out.setCell (Nat.le_refl _) _).setCell (Nat.le_refl _) _).setCell (Nat.le_refl _) _).setCell (Nat.le_refl _) _))
                · obtain rfl : p = sz := by omega
                  have HX := Lib.hid (show (npad b).all (· == 0) = true from by
                    rw [HPd.out, List.all_eq_true]
                    intro x hx
                    obtain ⟨j, hj, rfl⟩ := List.mem_iff_getElem.1 hx
                    have hj2 := hj
                    rw [List.length_take, List.length_drop] at hj2
                    have hb := hz.out (24 + nl + j) (by omega) (by omega)
                    have hbb : bat ((b.drop (24 + nl)).take (p - (24 + nl))) j = 0 := by rw [bat_take (by omega), bat_drop]; exact hb
                    unfold bat at hbb
                    rw [List.getD_eq_getElem?_getD, List.getElem?_eq_getElem hj] at hbb
                    simpa using hbb)
                  have HFin := Lib.hid (show ndec b = (0, nread b, p) from HPre.out _ (by rw [if_neg hlt, if_neg (fun e => e (of_decide_eq_true HQ3.out)), if_neg (fun e => e HX.out)]))
                  clear hz hlm
                  obtain ⟨x8, y8, g8, r8⟩ := RdL.part (P := Try.prog) elemB R5.out 8 16 (by omega) (by omega)
                  obtain ⟨x4, y4, g4, r4⟩ := RdL.part (P := Try.prog) elemB R5.out 4 8 (by omega) (by omega)
                  obtain ⟨xd, yd, gd, rd⟩ := RdL.part (P := Try.prog) elemB R5.out 20 (20 + nl) (by omega) (by omega)
                  have e20 : ((20 + nl : Nat) : Int) = 20 + (nl : Int) := by omega
                  have hsub : 20 + nl - 20 = nl := by omega
                  rw [e20, hsub] at gd
                  rw [hsub] at rd
                  rw [show ((8 : Nat) : Int) = 8 from rfl, show ((16 : Nat) : Int) = 16 from rfl] at g8
                  rw [show ((4 : Nat) : Int) = 4 from rfl, show ((8 : Nat) : Int) = 8 from rfl] at g4
                  rw [show ((20 : Nat) : Int) = 20 from rfl] at gd
                  simp only [show 16 - 8 = 8 from rfl, show 8 - 4 = 4 from rfl] at g8 g4 r8 r4
                  have R8 := Lib.hid r8
                  have HN8 := Lib.hid (fun W (h : Below W5.heap.size W5 W) => rval_any _ _ W (RdL.below R8.out h))
                  have R4 := Lib.hid r4
                  have HN4 := Lib.hid (fun W (h : Below W5.heap.size W5 W) => rval_any _ _ W (RdL.below R4.out h))
                  have hdl : ((b.drop 20).take nl).length = nl := by rw [List.length_take, List.length_drop]; omega
                  have HRdd := Lib.hid (show Rd W5 1 (.slice xd nl yd) nl (((b.drop 20).take nl).map byteV) from by have := rd; unfold RdL at this; rwa [hdl] at this)
                  have HRd := Lib.hid (show nread b = ⟨val ((b.drop 8).take 8), val ((b.drop 4).take 4), bat b 2 == 1, (b.drop 20).take nl⟩ by unfold nread; rw [HNl.out])
                  have HB2 := Lib.hid (show (bat b 2 == 1) = ((n2 : Int) == 1) by
                    rw [Bool.eq_iff_iff, beq_iff_eq, beq_iff_eq, ← UInt8.toNat_inj, HN2.out]
                    show n2 = 1 ↔ _; omega)
                  have v8 := val_lt ((b.drop 8).take 8)
                  have v4 := val4_lt (l := (b.drop 4).take 4) (by rw [List.length_take]; omega)
                  generalize val ((b.drop 8).take 8) = k8 at *
                  generalize val ((b.drop 4).take 4) = k4 at *
                  generalize (b.drop 20).take nl = dl at *
                  have HDl := Lib.hid hdl
                  have j4 : IntKind.u32.wrap (k4 : Int) = (k4 : Int) := IntWalk.u32_in _ (by omega)
                  obtain ⟨_, _, e, c2⟩ := RdB.at R5.out (show 2 < b.length by omega)
                  injection e with e; injection e with ea eb; subst ea eb
                  rw [HN2.out] at c2
                  have ib2 : (2 : Int) < (b.length : Int) := by omega
                  have HSX := Lib.hid (show ∀ w', Below W5.heap.size W5 w' → w'.cell? ⟨ab, off + 2, none⟩ = some (.int .u8 (n2 : Int)) from fun w' hb => Below.keeps hb _ _ c2)
                  have HSZ2 := Lib.hid (show ∀ w', Below W5.heap.size W5 w' → w'.cell? ⟨w.heap.size, 0, none⟩ = some (.int .u64 0) ∧ w'.cell? ⟨w.heap.size, 1, none⟩ = some (.int .u32 0) ∧ w'.cell? ⟨w.heap.size, 2, none⟩ = some (.bool false) ∧ w'.cell? ⟨w.heap.size, 3, none⟩ = some (.slice none 0 0) ∧ w'.frozen? ⟨w.heap.size, 0, none⟩ = false ∧ w'.frozen? ⟨w.heap.size, 1, none⟩ = false ∧ w'.frozen? ⟨w.heap.size, 2, none⟩ = false ∧ w'.frozen? ⟨w.heap.size, 3, none⟩ = false from fun w' hb => ⟨Below.keeps hb _ _ Z0, Below.keeps hb _ _ Z1, Below.keeps hb _ _ Z2, Below.keeps hb _ _ Z3,
                    (hb.frozen (p := ⟨w.heap.size, 0, none⟩) hzl).trans F0, (hb.frozen (p := ⟨w.heap.size, 1, none⟩) hzl).trans F1, (hb.frozen (p := ⟨w.heap.size, 2, none⟩) hzl).trans F2, (hb.frozen (p := ⟨w.heap.size, 3, none⟩) hzl).trans F3⟩)
                  obtain ⟨_, _, e, c2w⟩ := RdB.at Hw0.out (show 2 < b.length by omega)
                  injection e with e; injection e with ea eb; subst ea eb
                  have habw : ab < w.heap.size := World.block_lt_of_cell? _ _ c2w
                  have HSt := Lib.hid (fun (w' : World) (u0 u1 u2 u3 : Value) (h : w'.cell? ⟨ab, off + 2, none⟩ = some (.int .u8 (n2 : Int))) => show ((((w'.setCell ⟨w.heap.size, 0, none⟩ u0).setCell ⟨w.heap.size, 1, none⟩ u1).setCell ⟨w.heap.size, 2, none⟩ u2).setCell ⟨w.heap.size, 3, none⟩ u3).cell? ⟨ab, off + 2, none⟩ = some (.int .u8 (n2 : Int)) from by
                    have hne : ∀ k, (⟨w.heap.size, k, none⟩ : Addr) ≠ ⟨ab, off + 2, none⟩ := fun k e => by injection e with e; omega
                    rw [World.cell?_setCell_other (h := hne 3), World.cell?_setCell_other (h := hne 2), World.cell?_setCell_other (h := hne 1), World.cell?_setCell_other (h := hne 0)]; exact h)
                  have hmade : ∀ W : World, (W.alloc (.cells #[] 5)).ownsRow W.heap.size 5 1 (.slice (some ⟨W.heap.size, 0, none⟩) 0 0) 0 [] := fun W => World.ownsRow_made (e := 5) (size := 1) W #[] 0 (Nat.le_refl _) (by decide) rfl
                  have HMade := Lib.hid hmade
                  have HBk := Lib.hid (fun W v (h : ((W5.alloc (.cells #[] 5)).drew).grownBy W v) (hv : v = (Value.slice (some ⟨W5.heap.size, 0, none⟩) 0 0).ownBlock) => show Below W5.heap.size W5 W from by
                    subst hv
                    exact own_below (below_drew ((Below.refl _ _).alloc (Nat.le_refl _) _)) (World.ownsRow.drew (hmade W5)) (by simp) h)
                  clear e20 hsub r8 r4 rd c2 Z0 Z1 Z2 Z3 F0 F1 F2 F3 c2w hdl hmade
                  go_wp2_with fail
                  go_region_held3 (fun w' => w'.cell? ⟨ab, off + 2, none⟩ = some (.int .u8 (n2 : Int)))
                    (first | exact HSX.out _ (Below.refl _ _).drew | exact HSX.out _ (below_drew ((Below.refl _ _).alloc (Nat.le_refl _) _)) | exact HSX.out _ hbc | exact HSt.out _ _ _ _ _ (HSX.out _ hbc))
                    (first | (go_at_call 55; (with_reducible refine (HN8.out _ (by first | exact below_drew (Below.refl _ _) | exact below_drew ((Below.refl _ _).alloc (Nat.le_refl _) _) | exact hbc)).mono ?_); rintro e w6 ⟨rfl, rfl⟩) | (go_at_call 55; (with_reducible refine (HN4.out _ (by first | exact below_drew (Below.refl _ _) | exact below_drew ((Below.refl _ _).alloc (Nat.le_refl _) _) | exact hbc)).mono ?_); rintro e w6 ⟨rfl, rfl⟩) | (refine step_app (n := 0) (m := nl) (by rfl) (.tmp 101) (.tmp 104) 23 (by rfl) elemB W5.heap.size (by rfl) (World.ownsRow.drew (HMade.out W5)) (by rfl) (Rd.drew (Rd.alloc HRdd.out _)) (bytes_one _) (by unfold maxLen; omega) (by omega) (by simp) ?_; intro v7 w7 hown7 hgr7 hv7; clear hv7; have hbc := HBk.out _ _ hgr7 rfl; obtain ⟨oa7, oc7, hv7, _, _, _⟩ := own_form hown7; subst hv7; obtain ⟨z0, z1, z2, z3, y0, y1, y2, y3⟩ := HSZ2.out _ hbc) | fail)
                  all_goals
                    have hown7' : OwnB w7 W5.heap.size (.slice oa7 dl.length oc7) dl := by
                      have := ownB_of hown7 (List.nil_append _)
                      rw [HDl.out]; simpa using this
                    rw [HDl.out] at hown7'
                    have hnb : (Value.slice oa7 nl oc7).ownBlock ≠ some w.heap.size := fun e => by have := (World.ownsRow.lt hown7' _ e).1; omega
                    have HO7 := Lib.hid (World.ownsRow.mono (own_set_ne (p := ⟨w.heap.size, 3, none⟩) (own_set_ne (p := ⟨w.heap.size, 2, none⟩) (own_set_ne (p := ⟨w.heap.size, 1, none⟩) (own_set_ne (p := ⟨w.heap.size, 0, none⟩) hown7' hnb (.int .u64 (k8 : Int))) hnb (.int .u32 (k4 : Int))) hnb (.bool ((n2 : Int) == 1))) hnb (.slice oa7 nl oc7)) (Nat.le_of_lt hzl))
                    have HB7 := Lib.hid ((((bstep HB5.out hbc).setCell (p := ⟨w.heap.size, 0, none⟩) (Nat.le_refl _) (.int .u64 (k8 : Int))).setCell (p := ⟨w.heap.size, 1, none⟩) (Nat.le_refl _) (.int .u32 (k4 : Int))).setCell (p := ⟨w.heap.size, 2, none⟩) (Nat.le_refl _) (.bool ((n2 : Int) == 1)) |>.setCell (p := ⟨w.heap.size, 3, none⟩) (Nat.le_refl _) (.slice oa7 nl oc7))
                    clear hown7 hown7' hbc y0 y1 y2 y3
                    go_wp2_with fail
                    exact bodyPost_ret (v := .tuple #[.agg #[.int .u64 (k8 : Int), .int .u32 (k4 : Int), .bool ((n2 : Int) == 1), .slice oa7 nl oc7], .int .i64 (p : Int), .int .i64 0]) (by simp [results, Try.results42, go_sem, z0, z1, z2, z3]) rfl (by
                      rw [← HR.out]
                      refine ⟨⟨.slice oa7 nl oc7, ?_, ?_⟩, HB7.out⟩
                      · rw [HFin.out, HRd.out, HB2.out]
                      · rw [HFin.out, HRd.out]; exact HO7.out)
end Go.Proofs.Ytecflhklpkjhcaa
