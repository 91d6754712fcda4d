/- superblock.Decode: the walk. -/
import Derived.Test.YtecflhklpkjhcaaSe
namespace Go.Proofs.Ytecflhklpkjhcaa
open Go.RowKit

set_option maxRecDepth 100000 in
set_option maxHeartbeats 4000000 in
theorem sdecode_any (v : Value) (b : List UInt8) (w : World) (h : RdB w v b) (hs : b.length ≤ 1000000) : Calls Try.prog 34 #[v] w (SRes w b) := by
  obtain ⟨a, cap, rfl, h1, h2⟩ := h.shape0
  have Hw0 := Lib.hid h
  have HBZ := Lib.hid (show Below w.heap.size w (w.alloc zeroS) from (Below.refl _ _).alloc (Nat.le_refl _) _)
  have HRES := Lib.hid (fun (r : Int) (s : Sup) w' (hr : sdec b = (r, s)) (hb : Below w.heap.size w w') => show SRes w b (.returned (.tuple #[supV s, .int .i64 r])) w' from ⟨by rw [hr], hb⟩)
  have Hr := Lib.hid (RdL.below h HBZ.out)
  generalize hR : SRes w b = R at *
  have HR := Lib.hid hR
  clear hR
  by_cases h16 : b.length < 16
  · have HX := Lib.hid (HRES.out 4 sup0 (w.alloc zeroS) (by unfold sdec; rw [if_pos h16]) HBZ.out)
    have hd : decide ((b.length : Int) < 16) = true := by simp; omega
    clear h HRES HBZ Hr HR
    go_enter Try.func34, Try.ntmps34
    go_wp2_with fail
    exact bodyPost_ret (v := .tuple #[supV sup0, .int .i64 4]) (by simp [results, Try.results34, go_sem, sup0]) rfl HX.out
  · have hd : decide ((b.length : Int) < 16) = false := by simp; omega
    have hto4 := slice_to (P := Try.prog) elemB (a := a) (n := b.length) (cap := cap) (RdL.spot Hr.out (by omega)) 4 (by omega)
    rw [show ((4 : Nat) : Int) = 4 from rfl] at hto4
    have HST := Lib.hid (fun W v l (h : RdB W v l) => run_to_string (P := Try.prog) 23 9 5 Try.underlying23 Try.underlying5 Try.underlying9 h)
    have k4 := HST.out _ _ _ (RdL.take Hr.out 4 (by omega))
    have HV := Lib.hid (show nvol = [78, 86, 79, 76] from rfl)
    obtain ⟨s4, hs4⟩ : ∃ s4, b.take 4 = s4 := ⟨_, rfl⟩
    rw [hs4] at k4
    have HS4 := Lib.hid hs4
    clear h hs4
    by_cases hv : s4 = [78, 86, 79, 76]
    · have hvb : (s4 == [78, 86, 79, 76]) = true := by rw [hv]; rfl
      have HPre := Lib.hid (show ∀ r : Int × Sup, (if ck (b.take 12) ≠ (b.drop 12).take 4 then ((5 : Int), sup0) else if svld (sread b) then (0, sread b) else (3, sup0)) = r → sdec b = r from fun r h => by
        rw [← h]; unfold sdec; rw [if_neg h16, if_neg (fun e => e (by rw [HS4.out, hv]; rfl))])
      clear hv
      obtain ⟨W0, hW0⟩ : ∃ W0, w.alloc zeroS = W0 := ⟨_, rfl⟩
      have HBZ0 := Lib.hid (show Below w.heap.size w W0 by rw [← hW0]; exact HBZ.out)
      rw [hW0] at k4
      have HR0 := Lib.hid (show RdB W0 (.slice a b.length cap) b by rw [← hW0]; exact Hr.out)
      have Z0 : W0.cell? ⟨w.heap.size, 0, none⟩ = some (.int .i64 0) := by rw [← hW0]; simp
      have Z1 : W0.cell? ⟨w.heap.size, 1, none⟩ = some (.int .i64 0) := by rw [← hW0]; simp
      have Z2 : W0.cell? ⟨w.heap.size, 2, none⟩ = some (.int .i64 0) := by rw [← hW0]; simp
      have ZF : ∀ i, W0.frozen? ⟨w.heap.size, i, none⟩ = false := fun i => by rw [← hW0]; simp
      have HZ0 := Lib.hid Z0
      have HZ1 := Lib.hid Z1
      have HZ2 := Lib.hid Z2
      have HZF := Lib.hid ZF
      have hzz : w.heap.size < W0.heap.size := World.block_lt_of_cell? _ _ Z0
      have hto12 := slice_to (P := Try.prog) elemB (a := a) (n := b.length) (cap := cap) (RdL.spot Hr.out (by omega)) 12 (by omega)
      rw [show ((12 : Nat) : Int) = 12 from rfl] at hto12
      obtain ⟨x2, y2, g2, r2⟩ := RdL.part (P := Try.prog) elemB HR0.out 12 16 (by omega) (by omega)
      rw [show ((12 : Nat) : Int) = 12 from rfl, show ((16 : Nat) : Int) = 16 from rfl, show 16 - 12 = 4 from rfl] at g2
      rw [show 16 - 12 = 4 from rfl] at r2
      have R2 := Lib.hid r2
      have R1 := Lib.hid (show RdB W0 (.slice a 12 cap) (b.take 12) from RdL.take HR0.out 12 (by omega))
      have HSum := Lib.hid (fun u : BelowBy W0 => (sum_any (.slice a 12 cap) (b.take 12) u.w' (RdL.below R1.out u.h)).mono fun e w' (h : _ ∧ _) => (⟨h.1, h.2 ▸ Below.refl _ _⟩ : e = .returned (.int .u32 (Crc.sum (b.take 12) : Int)) ∧ Below u.w'.heap.size u.w' w'))
      have HLit := Lib.hid (fun W => slittle_any (Crc.sum (b.take 12)) W (Crc.sum_lt _))
      have hl4 : ((b.drop 12).take 4).length = 4 := by rw [List.length_take, List.length_drop]; omega
      have HNe := Lib.hid (fun W => neqA (le4 (Crc.sum (b.take 12))) ((b.drop 12).take 4) rfl hl4 W)
      obtain ⟨fb, foff, rfl, ha4, f0, f1, f2, f3⟩ := four_at R2.out hl4
      rw [ha4] at HNe
      have HCkE := Lib.hid (show le4 (Crc.sum (b.take 12)) = ck (b.take 12) from rfl)
      rw [HCkE.out] at HNe HLit
      have f0 := cell_by f0
      have f1 := cell_by f1
      have f2 := cell_by f2
      have f3 := cell_by f3
      have hA := fun W => run_arr4 W fb foff 4 y2 (Nat.le_refl _)
      generalize Crc.sum (b.take 12) = c at *
      obtain ⟨q2, hq2⟩ : ∃ q2, decide (ck (b.take 12) = (b.drop 12).take 4) = q2 := ⟨_, rfl⟩
      have HQ3 := Lib.hid hq2
      rw [hq2] at HNe
      clear Z0 Z1 Z2 ZF r2 hq2 ha4 hl4 HCkE
      generalize hs1 : ck (b.take 12) = s1 at *
      generalize hs2 : (b.drop 12).take 4 = s2 at *
      clear hs1 hs2
      obtain ⟨X, hX⟩ : ∃ X, (s1.map byteV).toArray = X := ⟨_, rfl⟩
      simp only [arr4, hX] at HNe HLit
      generalize (bat s2 0).toNat = m0 at *
      generalize (bat s2 1).toNat = m1 at *
      generalize (bat s2 2).toNat = m2 at *
      generalize (bat s2 3).toNat = m3 at *
      clear hX
      have hNe := HNe.out
      go_enter Try.func34, Try.ntmps34
      go_upto_region 5 with fail
      clear hW0 k4
      go_cut [16] (fun s wx => s = .bool (!q2) ∧ Below W0.heap.size W0 wx)
      case first =>
        refine wp_region_below (by kernel_rfl) (by kernel_rfl) ?_
        repeat (go_big_quiet_step ((first | exact calls_by (HSum.out _) | exact calls_by (HLit.out _))))
        refine wpQuiet_nil ?_
        intro _ hw'
        obtain ⟨u, hw'⟩ := hw'
        subst hw'
        have HB3 := u.h
        go_wp2_with fail
        go_meet
        case rel => exact ⟨rfl, HB3⟩
      case rest =>
        obtain ⟨rfl, hbw⟩ := hcut
        obtain ⟨W5, rfl⟩ : ∃ W5, W5 = wc := ⟨_, rfl⟩
        have Z0 := Below.keeps hbw _ _ HZ0.out
        have Z1 := Below.keeps hbw _ _ HZ1.out
        have Z2 := Below.keeps hbw _ _ HZ2.out
        have hzl : w.heap.size < W5.heap.size := World.block_lt_of_cell? _ _ Z0
        have ZF5 := fun i => (hbw.frozen (p := ⟨w.heap.size, i, none⟩) hzz).trans (HZF.out i)
        have F0 := ZF5 0
        have F1 := ZF5 1
        have F2 := ZF5 2
        have HB5 := Lib.hid (bstep HBZ0.out hbw)
        have R5 := Lib.hid (RdL.below HR0.out hbw)
        clear ZF5 hbw R1 R2 HST HZ0 HZ1 HZ2 HZF g2 HR0 HBZ0 hto12 hto4 f0 f1 f2 f3 hA hNe HNe HLit HSum
        cases q2
        · go_wp2_with fail
          exact bodyPost_ret (v := .tuple #[supV sup0, .int .i64 5]) (by simp [results, Try.results34, go_sem, sup0, Z0, Z1, Z2]) rfl (HRES.out 5 sup0 _ (HPre.out _ (by rw [if_pos (of_decide_eq_false HQ3.out)])) (((HB5.out.setCell (Nat.le_refl _) _).setCell (Nat.le_refl _) _).setCell (Nat.le_refl _) _))
        · obtain ⟨x4, y4, g4, r4⟩ := RdL.part (P := Try.prog) elemB R5.out 4 6 (by omega) (by omega)
          obtain ⟨x6, y6, g6, r6⟩ := RdL.part (P := Try.prog) elemB R5.out 6 8 (by omega) (by omega)
          obtain ⟨x8, y8, g8, r8⟩ := RdL.part (P := Try.prog) elemB R5.out 8 12 (by omega) (by omega)
          rw [show ((4 : Nat) : Int) = 4 from rfl, show ((6 : Nat) : Int) = 6 from rfl] at g4
          rw [show ((6 : Nat) : Int) = 6 from rfl, show ((8 : Nat) : Int) = 8 from rfl] at g6
          rw [show ((8 : Nat) : Int) = 8 from rfl, show ((12 : Nat) : Int) = 12 from rfl] at g8
          simp only [show 6 - 4 = 2 from rfl, show 12 - 8 = 4 from rfl] at g4 g6 g8 r4 r6 r8
          have R4 := Lib.hid r4
          have R6 := Lib.hid r6
          have R8 := Lib.hid r8
          have HN4 := Lib.hid (fun W (h : Below W5.heap.size W5 W) => snum_any _ _ W (RdL.below R4.out h) (by rw [List.length_take]; omega))
          have HN6 := Lib.hid (fun W (h : Below W5.heap.size W5 W) => snum_any _ _ W (RdL.below R6.out h) (by rw [List.length_take]; omega))
          have HN8 := Lib.hid (fun W (h : Below W5.heap.size W5 W) => snum_any _ _ W (RdL.below R8.out h) (by rw [List.length_take]; omega))
          have HRd := Lib.hid (show sread b = ⟨val ((b.drop 4).take 2), val ((b.drop 6).take 2), val ((b.drop 8).take 4)⟩ from rfl)
          have l4 := val4_lt (l := (b.drop 4).take 2) (by rw [List.length_take]; omega)
          have l6 := val4_lt (l := (b.drop 6).take 2) (by rw [List.length_take]; omega)
          have l8 := val4_lt (l := (b.drop 8).take 4) (by rw [List.length_take]; omega)
          generalize val ((b.drop 4).take 2) = n4 at *
          generalize val ((b.drop 6).take 2) = n6 at *
          generalize val ((b.drop 8).take 4) = n8 at *
          have j4 : IntKind.i64.wrap (n4 : Int) = (n4 : Int) := IntWalk.i64_in _ (by omega)
          have j6 : IntKind.i64.wrap (n6 : Int) = (n6 : Int) := IntWalk.i64_in _ (by omega)
          have j8 : IntKind.i64.wrap (n8 : Int) = (n8 : Int) := IntWalk.i64_in _ (by omega)
          have HZs := Lib.hid (And.intro Z0 (And.intro Z1 (And.intro Z2 (And.intro F0 (And.intro F1 F2)))))
          clear r4 r6 r8 Z0 Z1 Z2 F0 F1 F2
          go_wp2_with fail
          go_region_held3 (fun _ => True) (trivial)
            (first | (go_at_call 49; (with_reducible refine (HN4.out _ (by first | exact below_drew (Below.refl _ _) | exact below_drew ((Below.refl _ _).alloc (Nat.le_refl _) _))).mono ?_); rintro e w6 ⟨rfl, rfl⟩) | (go_at_call 49; (with_reducible refine (HN6.out _ (by first | exact below_drew (Below.refl _ _) | exact below_drew ((Below.refl _ _).alloc (Nat.le_refl _) _))).mono ?_); rintro e w6 ⟨rfl, rfl⟩) | (go_at_call 49; (with_reducible refine (HN8.out _ (by first | exact below_drew (Below.refl _ _) | exact below_drew ((Below.refl _ _).alloc (Nat.le_refl _) _))).mono ?_); rintro e w6 ⟨rfl, rfl⟩) | fail)
          all_goals
            obtain ⟨W6, hW6⟩ : ∃ W6, (W5.alloc (.cells #[.int .i64 (n4 : Int), .int .i64 (n6 : Int), .int .i64 (n8 : Int)] 37)).drew = W6 := ⟨_, rfl⟩
            have HB6 := Lib.hid (show Below W5.heap.size W5 W6 by rw [← hW6]; exact below_drew ((Below.refl _ _).alloc (Nat.le_refl _) _))
            have b0 : W6.cell? ⟨W5.heap.size, 0, none⟩ = some (.int .i64 (n4 : Int)) := by rw [← hW6]; simp
            have b1 : W6.cell? ⟨W5.heap.size, 1, none⟩ = some (.int .i64 (n6 : Int)) := by rw [← hW6]; simp
            have b2 : W6.cell? ⟨W5.heap.size, 2, none⟩ = some (.int .i64 (n8 : Int)) := by rw [← hW6]; simp
            have HVl := Lib.hid (svalid_any ⟨n4, n6, n8⟩ W6 l4 l6 l8)
            obtain ⟨q, hq⟩ : ∃ q, decide (svld ⟨n4, n6, n8⟩) = q := ⟨_, rfl⟩
            rw [hq] at HVl
            have HQv := Lib.hid hq
            obtain ⟨Z0, Z1, Z2, F0, F1, F2⟩ := HZs.out
            rw [hW6]
            clear hW6 hq
            go_wp2_with fail
            refine HVl.out.mono ?_; rintro e w7 ⟨rfl, hb7⟩
            have hb57 := bstep HB6.out hb7
            have Z0 := Below.keeps hb57 _ _ Z0
            have Z1 := Below.keeps hb57 _ _ Z1
            have Z2 := Below.keeps hb57 _ _ Z2
            have F0 := (hb57.frozen (p := ⟨w.heap.size, 0, none⟩) hzl).trans F0
            have F1 := (hb57.frozen (p := ⟨w.heap.size, 1, none⟩) hzl).trans F1
            have F2 := (hb57.frozen (p := ⟨w.heap.size, 2, none⟩) hzl).trans F2
            have b0 := Below.keeps hb7 _ _ b0
            have b1 := Below.keeps hb7 _ _ b1
            have b2 := Below.keeps hb7 _ _ b2
            have HB7 := Lib.hid (bstep HB5.out hb57)
            clear hb7 hb57
            cases q
            · go_wp2_with fail
              exact bodyPost_ret (v := .tuple #[supV sup0, .int .i64 3]) (by simp [results, Try.results34, go_sem, sup0, Z0, Z1, Z2]) rfl (HRES.out 3 sup0 _ (HPre.out _ (by rw [if_neg (fun e => e (of_decide_eq_true HQ3.out)), HRd.out, if_neg (of_decide_eq_false HQv.out)])) (((HB7.out.setCell (Nat.le_refl _) _).setCell (Nat.le_refl _) _).setCell (Nat.le_refl _) _))
            · go_wp2_with fail
              exact bodyPost_ret (v := .tuple #[supV ⟨n4, n6, n8⟩, .int .i64 0]) (by simp [results, Try.results34, go_sem, Z0, Z1, Z2]) rfl (HRES.out 0 ⟨n4, n6, n8⟩ _ (HPre.out _ (by rw [if_neg (fun e => e (of_decide_eq_true HQ3.out)), HRd.out, if_pos (of_decide_eq_true HQv.out)])) (((HB7.out.setCell (Nat.le_refl _) _).setCell (Nat.le_refl _) _).setCell (Nat.le_refl _) _))
    · have hvb : (s4 == [78, 86, 79, 76]) = false := beq_eq_false_iff_ne.2 hv
      have HX := Lib.hid (HRES.out 3 sup0 (w.alloc zeroS) (by unfold sdec; rw [if_neg h16, if_pos (by rw [HS4.out]; exact hv)]) HBZ.out)
      clear hv
      go_enter Try.func34, Try.ntmps34
      go_wp2_with fail
      exact bodyPost_ret (v := .tuple #[supV sup0, .int .i64 3]) (by simp [results, Try.results34, go_sem, sup0]) rfl HX.out
end Go.Proofs.Ytecflhklpkjhcaa
