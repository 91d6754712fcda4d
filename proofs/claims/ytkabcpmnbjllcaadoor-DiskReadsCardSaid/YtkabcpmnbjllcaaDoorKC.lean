/- Several texts in one, each over the last: Valid of the reference: the walk. Printed by mkDra.py. ready, at of the reference: the walks. Size, Read of the reference: the walks. Printed by mkDrc.py. Names of the reference: the walk. -/
import Derived.Test.YtkabcpmnbjllcaaDoorKB
namespace Go.Proofs.YtkabcpmnbjllcaaDoor
open Go.RowKit

set_option maxRecDepth 100000 in
set_option maxHeartbeats 3200000 in
theorem rvalid_any (c lf : Int) (fv : Value) (l : List Fil) (w : World) (h : RdF w fv l) (hL : LiteFs l) :
    Calls Tryd.prog 18 #[diskVal c lf fv] w fun e w' => e = .returned (.bool (validD ⟨c, lf, l⟩)) ∧ Below w.heap.size w w' := by
  obtain ⟨a, cap, rfl, h1, h2, h3⟩ := h.shape
  have HR := Lib.hid h
  have HV := Lib.hid (show validD ⟨c, lf, l⟩ = (decide (0 ≤ c) && decide (-1 ≤ lf) && decide (l.length ≤ 256) && (l.all okF && ascN l)) by unfold validD; simp only [Bool.and_assoc])
  have HA := Lib.hid (vldK_all l)
  have HN := Lib.hid (fun k => vldK_no l k)
  have H0 := Lib.hid (vldK_zero l)
  have H1 := Lib.hid (vldK_first l)
  have HS := Lib.hid (fun j => vldK_next l j)
  have HLf := Lib.hid (fun i (hi : i < l.length) => hL.at hi)
  unfold maxLen at h2
  clear h h3 hL
  generalize (l.all okF && ascN l) = A at *
  generalize validD ⟨c, lf, l⟩ = R at *
  generalize l.length = n at *
  have HBx := Lib.hid (show Below w.heap.size w (w.alloc (.cells #[.int .i64 c, .int .i64 lf, .slice a n cap] 24)) from (Below.refl _ _).alloc (Nat.le_refl _) _)
  by_cases hc : c < 0
  · have HX := Lib.hid (show false = R by rw [HV.out, decide_eq_false (show ¬ 0 ≤ c by omega)]; rfl)
    go_enter Tryd.func18, Tryd.ntmps18
    go_wp2_with fail
    go_ret
    exact ⟨ret_bool HX.out, HBx.out⟩
  · by_cases hl : lf < -1
    · have HX := Lib.hid (show false = R by rw [HV.out, decide_eq_false (show ¬ -1 ≤ lf by omega), Bool.and_false]; rfl)
      go_enter Tryd.func18, Tryd.ntmps18
      go_wp2_with fail
      go_ret
      exact ⟨ret_bool HX.out, HBx.out⟩
    · by_cases hn : 256 < n
      · have i1 : (256 : Int) < (n : Int) := by omega
        have HX := Lib.hid (show false = R by rw [HV.out, decide_eq_false (show ¬ n ≤ 256 by omega), Bool.and_false]; rfl)
        go_enter Tryd.func18, Tryd.ntmps18
        go_wp2_with fail
        go_ret
        exact ⟨ret_bool HX.out, HBx.out⟩
      · have i1 : ¬ (256 : Int) < (n : Int) := by omega
        have HX := Lib.hid (show R = A by rw [HV.out, decide_eq_true (show 0 ≤ c by omega), decide_eq_true (show -1 ≤ lf by omega), decide_eq_true (show n ≤ 256 by omega)]; rfl)
        clear HV
        go_enter Tryd.func18, Tryd.ntmps18
        go_wp2_with fail
        have HC2 := Lib.hid (show (w.alloc (.cells #[.int .i64 c, .int .i64 lf, .slice a n cap] 24)).cell? ⟨w.heap.size, 2, none⟩ = some (.slice a n cap) by simp)
        generalize w.alloc (.cells #[.int .i64 c, .int .i64 lf, .slice a n cap] 24) = W0 at *
        go_loopw [3] (fun iv W => ∃ k : Nat, k ≤ n ∧ iv = .int .i64 (k : Int) ∧ Hid (vldK l k = true) ∧ Hid (Below W0.heap.size W0 W)) (fun iv _ => n - (intOf iv).toNat)
        case atStart => exact ⟨0, Nat.zero_le _, rfl, H0, Lib.hid (Below.refl _ _)⟩
        case round =>
          obtain ⟨k, hk, rfl, HK, HB⟩ := hrel
          have d3 := Below.keeps HB.out _ _ HC2.out
          by_cases hlt : k < n
          · have i2 : (k : Int) < (n : Int) := by omega
            have hrd := HR.out.below (bstep HBx.out HB.out)
            obtain ⟨b, off, bv, pv, rfl, hb, hp, c0, c1, c2⟩ := hrd.at hlt
            obtain ⟨ba, bc, rfl, _⟩ := hb.shape0
            obtain ⟨pa, pc, rfl, _⟩ := hp.shape
            have hLk := HLf.out k hlt
            have HVf := Lib.hid (fun W (hW : Below wr.heap.size wr W) => rvfile_any (atN l k).name (atN l k).base (atN l k).pend _ _ W (hb.below hW) (hp.below hW) hLk)
            change Hid (∀ W, Below wr.heap.size wr W → Calls Tryd.prog 47 #[.agg #[.string (strB (atN l k).name), .slice ba (atN l k).base.length bc, .slice pa (atN l k).pend.length pc]] W fun e w' => e = .returned (.bool (okF (atN l k))) ∧ Below W.heap.size W w') at HVf
            generalize hs : strB (atN l k).name = s at *
            have Hs := Lib.hid hs
            clear hs
            have Hle := Lib.hid (fun t => le_str (atN l k).name t)
            have Hsm := Lib.hid (fun t => same_str (atN l k).name t)
            have Hls := Lib.hid (fun t => show Op.bytesLess (strB (atN l k).name).toList (strB t).toList = decide ((atN l k).name < t) by rw [strB_toList, strB_toList, less_eq])
            rw [Hs.out] at Hle Hsm Hls
            clear hb hp hLk
            generalize (atN l k).base.length = bl at *
            generalize (atN l k).pend.length = pl at *
            generalize hob : okF (atN l k) = ob at *
            have HQ := Lib.hid hob
            clear hob
            cases ob
            · have HY := Lib.hid (show false = R by
                rw [HX.out, HN.out (k + 1) (by
                  rcases Nat.eq_zero_or_pos k with e | e
                  · subst e; rw [H1.out hlt, HQ.out]
                  · obtain ⟨j, rfl⟩ : ∃ j, k = j + 1 := ⟨k - 1, by omega⟩
                    rw [HS.out j hlt, HQ.out]; simp)])
              go_upto_region 6 with fail
              have e0 := cell_by c0
              have e1 := cell_by c1
              have e2 := cell_by c2
              have e3 := cell_by d3
              clear c0 c1 c2 d3
              refine wp_region_below (by kernel_rfl) (by kernel_rfl) ?_
              repeat (go_big_quiet_step ((with_reducible exact calls_by (HVf.out _ (BelowBy.h _)))))
              refine wpQuiet_nil ?_
              intro _ hw'
              obtain ⟨u, hw'⟩ := hw'
              subst hw'
              have HBu := Lib.hid (bstep HB.out u.h)
              generalize u.w' = W7 at *
              clear e0 e1 e2 e3
              go_wp2_with fail
              go_ret
              exact ⟨ret_bool HY.out, bstep HBx.out HBu.out⟩
            · by_cases h0 : k = 0
              · subst h0
                rw [Nat.zero_mul, Nat.add_zero] at c0 c1 c2
                have g1 : decide ((0 : Int) < ((0 : Nat) : Int)) = false := rfl
                have g2 : decide ((0 : Int) < 0) = false := rfl
                have g3 : ¬ (0 : Int) < 0 := by omega
                have HY := Lib.hid (show vldK l (0 + 1) = true by rw [show 0 + 1 = 1 from rfl, H1.out hlt, HQ.out])
                go_upto_region 6 with fail
                have e0 := cell_by c0
                have e1 := cell_by c1
                have e2 := cell_by c2
                have e3 := cell_by d3
                clear c0 c1 c2 d3
                refine wp_region_below (by kernel_rfl) (by kernel_rfl) ?_
                repeat (go_big_quiet_step ((with_reducible exact calls_by (HVf.out _ (BelowBy.h _)))))
                refine wpQuiet_nil ?_
                intro _ hw'
                obtain ⟨u, hw'⟩ := hw'
                subst hw'
                have HBu := Lib.hid (bstep HB.out u.h)
                generalize u.w' = W7 at *
                clear e0 e1 e2 e3
                go_wp2_with fail
                exact ⟨⟨0 + 1, by omega, by go_num, HY, HBu⟩, by simp [intOf]; omega⟩
              · obtain ⟨j, rfl⟩ : ∃ j, k = j + 1 := ⟨k - 1, by omega⟩
                obtain ⟨b', off', bv', pv', eqa, _, _, f0, _, _⟩ := hrd.at (show j < n by omega)
                injection eqa with eqa
                injection eqa with eqb eqo
                subst eqb eqo
                have HSj := Lib.hid (HS.out j hlt)
                have Hlej := Lib.hid (Hle.out (atN l j).name)
                have Hsmj := Lib.hid (Hsm.out (atN l j).name)
                have Hlsj := Lib.hid (Hls.out (atN l j).name)
                have i3 : (0 : Int) < (j : Int) + 1 := by omega
                clear Hle Hsm Hls h0 hrd
                generalize strB (atN l j).name = t at *
                by_cases hlt2 : (atN l j).name < (atN l (j + 1)).name
                · have HY := Lib.hid (show vldK l (j + 1 + 1) = true by rw [HSj.out, HK.out, HQ.out, decide_eq_true hlt2]; rfl)
                  have b0 := Hlej.out
                  rw [decide_eq_true hlt2] at b0
                  have b1 : Op.bytesLess s.toList t.toList = false := by cases e : Op.bytesLess s.toList t.toList; rfl; rw [e] at b0; cases b0
                  have b2 : (s.toList == t.toList) = false := by rw [b1] at b0; simpa using b0
                  clear b0 Hlej Hsmj Hlsj
                  go_upto_region 6 with fail
                  have e0 := cell_by c0
                  have e1 := cell_by c1
                  have e2 := cell_by c2
                  have e3 := cell_by d3
                  have e4 := cell_by f0
                  clear c0 c1 c2 d3 f0
                  refine wp_region_below (by kernel_rfl) (by kernel_rfl) ?_
                  repeat (go_big_quiet_step ((with_reducible exact calls_by (HVf.out _ (BelowBy.h _)))))
                  refine wpQuiet_nil ?_
                  intro _ hw'
                  obtain ⟨u, hw'⟩ := hw'
                  subst hw'
                  have HBu := Lib.hid (bstep HB.out u.h)
                  generalize u.w' = W7 at *
                  clear e0 e1 e2 e3 e4
                  go_wp2_with fail
                  exact ⟨⟨j + 1 + 1, by omega, by go_num, HY, HBu⟩, by simp [intOf]; omega⟩
                · have HY := Lib.hid (show false = R by
                    rw [HX.out, HN.out (j + 1 + 1) (by rw [HSj.out, HK.out, HQ.out, decide_eq_false hlt2]; rfl)])
                  by_cases heq : (atN l (j + 1)).name = (atN l j).name
                  · have b2 := Hsmj.out
                    rw [beq_iff_eq.2 heq] at b2
                    have b1 := Hlsj.out
                    rw [decide_eq_false (show ¬ (atN l (j + 1)).name < (atN l j).name by rw [heq]; exact lex_irrefl _)] at b1
                    clear Hlej Hsmj Hlsj
                    go_upto_region 6 with fail
                    have e0 := cell_by c0
                    have e1 := cell_by c1
                    have e2 := cell_by c2
                    have e3 := cell_by d3
                    have e4 := cell_by f0
                    clear c0 c1 c2 d3 f0
                    refine wp_region_below (by kernel_rfl) (by kernel_rfl) ?_
                    repeat (go_big_quiet_step ((with_reducible exact calls_by (HVf.out _ (BelowBy.h _)))))
                    refine wpQuiet_nil ?_
                    intro _ hw'
                    obtain ⟨u, hw'⟩ := hw'
                    subst hw'
                    have HBu := Lib.hid (bstep HB.out u.h)
                    generalize u.w' = W7 at *
                    clear e0 e1 e2 e3 e4
                    go_wp2_with fail
                    go_ret
                    exact ⟨ret_bool HY.out, bstep HBx.out HBu.out⟩
                  · have b1 := Hlsj.out
                    rw [decide_eq_true (show (atN l (j + 1)).name < (atN l j).name by
                      rcases lex_tri (atN l (j + 1)).name (atN l j).name with e | e | e
                      · exact e
                      · exact absurd e heq
                      · exact absurd e hlt2)] at b1
                    clear Hlej Hsmj Hlsj
                    go_upto_region 6 with fail
                    have e0 := cell_by c0
                    have e1 := cell_by c1
                    have e2 := cell_by c2
                    have e3 := cell_by d3
                    have e4 := cell_by f0
                    clear c0 c1 c2 d3 f0
                    refine wp_region_below (by kernel_rfl) (by kernel_rfl) ?_
                    repeat (go_big_quiet_step ((with_reducible exact calls_by (HVf.out _ (BelowBy.h _)))))
                    refine wpQuiet_nil ?_
                    intro _ hw'
                    obtain ⟨u, hw'⟩ := hw'
                    subst hw'
                    have HBu := Lib.hid (bstep HB.out u.h)
                    generalize u.w' = W7 at *
                    clear e0 e1 e2 e3 e4
                    go_wp2_with fail
                    go_ret
                    exact ⟨ret_bool HY.out, bstep HBx.out HBu.out⟩
          · have i2 : ¬ (k : Int) < (n : Int) := by omega
            obtain rfl : k = n := by omega
            have HY := Lib.hid (show true = R by rw [HX.out, ← HA.out, HK.out])
            go_wp2_with fail
            go_ret
            exact ⟨ret_bool HY.out, bstep HBx.out HB.out⟩
end Go.Proofs.YtkabcpmnbjllcaaDoor

namespace Go.Proofs.YtkabcpmnbjllcaaDoor
open Go.RowKit

set_option maxRecDepth 100000 in
set_option maxHeartbeats 1600000 in
theorem rready_any (c lf : Int) (fv : Value) (l : List Fil) (s : List UInt8) (w : World) (h : RdF w fv l) (hL : LiteFs l) (hs : s.length ≤ 9223372036854775807) :
    Calls Tryd.prog 89 #[diskVal c lf fv, .string (strB s)] w fun e w' => e = .returned (.int .i64 (readyE ⟨c, lf, l⟩ s)) ∧ Below w.heap.size w w' := by
  obtain ⟨a, cap, rfl, h1, h2, _⟩ := h.shape
  have HV := Lib.hid (fun W (hW : Below w.heap.size w W) => rvalid_any c lf _ l W (h.below hW) hL)
  have HN := Lib.hid (show ∀ W, Calls Tryd.prog 24 #[.string (strB s)] W fun e w' => e = .returned (.bool (nameB s)) ∧ W = w' from fun W => rvname_any (strB s) W (by rw [strB_size]; exact hs))
  have HR := Lib.hid (show readyE ⟨c, lf, l⟩ s = if !(validD ⟨c, lf, l⟩ && nameB s) then 1 else if lf = 0 then 13 else 0 from rfl)
  clear h hL hs
  generalize readyE ⟨c, lf, l⟩ s = Q at *
  generalize validD ⟨c, lf, l⟩ = vb at *
  generalize nameB s = nb at *
  generalize l.length = n at *
  generalize strB s = sv at *
  have HBx := Lib.hid (show Below w.heap.size w (w.alloc (.cells #[.int .i64 c, .int .i64 lf, .slice a n cap] 24)) from (Below.refl _ _).alloc (Nat.le_refl _) _)
  have X := Lib.hid (BoxD.new w c lf (.slice a n cap) 24)
  cases vb
  · have HE := Lib.hid (show Q = 1 by rw [HR.out]; rfl)
    go_enter Tryd.func89, Tryd.ntmps89
    go_wp2_with fail
    refine (HV.out _ HBx.out).mono ?_
    rintro e w1 ⟨rfl, hb1⟩
    have HB1 := Lib.hid (bstep HBx.out hb1)
    clear hb1
    go_wp2_with fail
    go_ret
    exact ⟨by rw [HE.out]; rfl, HB1.out⟩
  · cases nb
    · have HE := Lib.hid (show Q = 1 by rw [HR.out]; rfl)
      go_enter Tryd.func89, Tryd.ntmps89
      go_wp2_with fail
      refine (HV.out _ HBx.out).mono ?_
      rintro e w1 ⟨rfl, hb1⟩
      have HB1 := Lib.hid (bstep HBx.out hb1)
      clear hb1
      go_wp2_with fail
      refine (HN.out _).mono ?_
      rintro e w2 ⟨rfl, rfl⟩
      go_wp2_with fail
      go_ret
      exact ⟨by rw [HE.out]; rfl, HB1.out⟩
    · by_cases hl : lf = 0
      · have HE := Lib.hid (show Q = 13 by rw [HR.out, if_neg (by simp), if_pos hl])
        subst hl
        go_enter Tryd.func89, Tryd.ntmps89
        go_wp2_with fail
        refine (HV.out _ HBx.out).mono ?_
        rintro e w1 ⟨rfl, hb1⟩
        have HB1 := Lib.hid (bstep HBx.out hb1)
        have x1 := (X.out.below hb1).c1
        clear hb1
        go_wp2_with fail
        refine (HN.out _).mono ?_
        rintro e w2 ⟨rfl, rfl⟩
        go_wp2_with fail
        go_ret
        exact ⟨by rw [HE.out]; rfl, HB1.out⟩
      · have HE := Lib.hid (show Q = 0 by rw [HR.out, if_neg (by simp), if_neg hl])
        have hl' : (lf == 0) = false := beq_eq_false_iff_ne.2 hl
        go_enter Tryd.func89, Tryd.ntmps89
        go_wp2_with fail
        refine (HV.out _ HBx.out).mono ?_
        rintro e w1 ⟨rfl, hb1⟩
        have HB1 := Lib.hid (bstep HBx.out hb1)
        have x1 := (X.out.below hb1).c1
        clear hb1
        go_wp2_with fail
        refine (HN.out _).mono ?_
        rintro e w2 ⟨rfl, rfl⟩
        go_wp2_with fail
        go_ret
        exact ⟨by rw [HE.out]; rfl, HB1.out⟩
def atI (d : Dk) (s : List UInt8) : Int := if atE d s = 0 then (lowN d.files s : Int) else -1
set_option maxRecDepth 100000 in
set_option maxHeartbeats 1600000 in
theorem rat_any (d : Dk) (fv : Value) (s : List UInt8) (w : World) (h : RdF w fv d.files) (hL : LiteD d) (hs : s.length ≤ 9223372036854775807) :
    Calls Tryd.prog 59 #[diskVal d.cap d.left fv, .string (strB s)] w fun e w' => e = .returned (.tuple #[.int .i64 (atI d s), .int .i64 (atE d s)]) ∧ Below w.heap.size w w' := by
  obtain ⟨a, cap, rfl, h1, h2, _⟩ := h.shape
  have HQ := Lib.hid (fun W (hW : Below w.heap.size w W) => rready_any d.cap d.left _ d.files s W (h.below hW) hL.fs hs)
  have HF := Lib.hid (fun (hv : VldD d) W (hW : Below w.heap.size w W) => rfind_any d.cap d.left _ d.files s W (h.below hW) hv.asc (by have := hL.len; omega))
  have HR0 := Lib.hid (fun e => readyE_ok (d := d) (s := s) e)
  have HA := Lib.hid (show atE d s = if readyE d s ≠ 0 then readyE d s else if hasN d.files s then 0 else 6 from rfl)
  have HI := Lib.hid (show atI d s = if atE d s = 0 then (lowN d.files s : Int) else -1 from rfl)
  have HFi := Lib.hid (show rfndI d.files s = if hasN d.files s then (lowN d.files s : Int) else -1 from rfl)
  clear h hs
  generalize atI d s = I at *
  generalize atE d s = E at *
  change Hid (∀ W, Below w.heap.size w W → Calls _ _ _ W fun e w' => e = .returned (.int .i64 (readyE d s)) ∧ Below W.heap.size W w') at HQ
  generalize readyE d s = Q at *
  generalize hasN d.files s = hb at *
  generalize rfndI d.files s = fi at *
  generalize lowN d.files s = lo at *
  generalize strB s = sv at *
  generalize d.files.length = n at *
  obtain ⟨c, lf, fl⟩ := d
  dsimp only at *
  have HBx := Lib.hid (show Below w.heap.size w (w.alloc (.cells #[.int .i64 c, .int .i64 lf, .slice a n cap] 24)) from (Below.refl _ _).alloc (Nat.le_refl _) _)
  have X := Lib.hid (BoxD.new w c lf (.slice a n cap) 24)
  by_cases hq : Q = 0
  · subst hq
    have HFt := Lib.hid (HF.out (HR0.out rfl).1)
    cases hb
    · have HE := Lib.hid (show E = 6 by rw [HA.out]; rfl)
      have HE2 := Lib.hid (show I = -1 by rw [HI.out, HE.out]; rfl)
      have hfi : fi = -1 := HFi.out
      subst hfi
      go_enter Tryd.func59, Tryd.ntmps59
      go_wp2_with fail
      refine (HQ.out _ HBx.out).mono ?_
      rintro e w1 ⟨rfl, hb1⟩
      replace X := Lib.hid (X.out.below hb1)
      have HB1 := Lib.hid (bstep HBx.out hb1)
      have x0 := X.out.c0
      have x1 := X.out.c1
      have x2 := X.out.c2
      clear hb1
      go_wp2_with fail
      refine (HFt.out _ HB1.out).mono ?_
      rintro e w2 ⟨rfl, hb2⟩
      have HB2 := Lib.hid (bstep HB1.out hb2)
      clear hb2
      go_wp2_with fail
      go_ret2
      exact ⟨by rw [HE.out, HE2.out]; rfl, HB2.out⟩
    · have HE := Lib.hid (show E = 0 by rw [HA.out]; rfl)
      have HE2 := Lib.hid (show I = (lo : Int) by rw [HI.out, HE.out]; rfl)
      have hfi : fi = (lo : Int) := HFi.out
      subst hfi
      have i1 : ¬ (lo : Int) < 0 := by omega
      go_enter Tryd.func59, Tryd.ntmps59
      go_wp2_with fail
      refine (HQ.out _ HBx.out).mono ?_
      rintro e w1 ⟨rfl, hb1⟩
      replace X := Lib.hid (X.out.below hb1)
      have HB1 := Lib.hid (bstep HBx.out hb1)
      have x0 := X.out.c0
      have x1 := X.out.c1
      have x2 := X.out.c2
      clear hb1
      go_wp2_with fail
      refine (HFt.out _ HB1.out).mono ?_
      rintro e w2 ⟨rfl, hb2⟩
      have HB2 := Lib.hid (bstep HB1.out hb2)
      clear hb2
      go_wp2_with fail
      go_ret2
      exact ⟨by rw [HE.out, HE2.out]; rfl, HB2.out⟩
  · have HE := Lib.hid (show E = Q by rw [HA.out, if_pos hq])
    have HE2 := Lib.hid (show I = -1 by rw [HI.out, HE.out, if_neg hq])
    have hz1 : (Q == 0) = false := beq_eq_false_iff_ne.2 hq
    have hz2 : (Q != 0) = true := by rw [bne_iff_ne]; exact hq
    go_enter Tryd.func59, Tryd.ntmps59
    go_wp2_with fail
    refine (HQ.out _ HBx.out).mono ?_
    rintro e w1 ⟨rfl, hb1⟩
    have HB1 := Lib.hid (bstep HBx.out hb1)
    clear hb1
    go_wp2_with fail
    go_ret2
    exact ⟨by rw [HE.out, HE2.out]; rfl, HB1.out⟩
end Go.Proofs.YtkabcpmnbjllcaaDoor

namespace Go.Proofs.YtkabcpmnbjllcaaDoor
open Go.RowKit

theorem atI_ok {d : Dk} {s : List UInt8} (h : atE d s = 0) : atI d s = (lowN d.files s : Int) := by unfold atI; rw [if_pos h]
theorem atI_no {d : Dk} {s : List UInt8} (h : atE d s ≠ 0) : atI d s = -1 := by unfold atI; rw [if_neg h]
/-- What a read of the reference hands back. -/
def RefRd (w0 : World) (x : List UInt8 × Int) (e : Ending) (w' : World) : Prop := ∃ v', e = .returned (.tuple #[v', .int .i64 x.2]) ∧ RdB w' v' x.1 ∧ Below w0.heap.size w0 w'
set_option maxRecDepth 100000 in
set_option maxHeartbeats 1600000 in
theorem rsize_any (d : Dk) (s : List UInt8) (fv : Value) (w : World) (h : RdF w fv d.files) (hL : LiteD d) (hs : s.length ≤ 9223372036854775807) :
    Calls Tryd.prog 35 #[diskVal d.cap d.left fv, .string (strB s)] w fun e w' => e = .returned (.tuple #[.int .i64 (sizeD d s).1, .int .i64 (sizeD d s).2]) ∧ Below w.heap.size w w' := by
  obtain ⟨a, cap, rfl, h1, h2, _⟩ := h.shape
  have hO := fun W (hW : Below w.heap.size w W) => rat_any d _ s W (h.below hW) hL hs
  by_cases he : atE d s = 0
  · have hi := (atE_ok he).2.2.2.1
    have hlw := hL.fs.fil _ (atN_mem hi)
    have hcl := contF_le (atN d.files (lowN d.files s))
    obtain ⟨b, of, bv, pv, rfl, hbv, hpv, c0, c1, c2⟩ := h.at hi
    have HCn := Lib.hid (fun W (hW : Below w.heap.size w W) => rcontent_any (atN d.files (lowN d.files s)).name _ _ bv pv W (hbv.below hW) (hpv.below hW) hlw)
    have HS := Lib.hid (show sizeD d s = (((contF (atN d.files (lowN d.files s))).length : Int), 0) by
      unfold sizeD; rw [if_neg (by simp [he]), lenF_cont (sized_of_vld (atE_ok he).1 hi)])
    simp only [atI_ok he, he] at hO
    obtain ⟨ba, bc, rfl, hb1, hb2, _⟩ := hbv.shape0
    obtain ⟨pa, pc, rfl, hp1, hp2, _⟩ := hpv.shape
    have HO := Lib.hid hO
    clear hO h hbv hpv he hL hlw
    generalize sizeD d s = RR at *
    obtain ⟨c, lf, fl⟩ := d
    dsimp only at *
    change Hid (∀ W, Below w.heap.size w W → Calls Tryd.prog 38 _ W fun e w' => ∃ v', e = .returned v' ∧ OwnU w' W.heap.size v' (contF (atN fl (lowN fl s))) ∧ Below W.heap.size W w') at HCn
    generalize contF (atN fl (lowN fl s)) = C at *
    generalize (atN fl (lowN fl s)).base.length = l at *
    generalize (atN fl (lowN fl s)).pend.length = m at *
    generalize (atN fl (lowN fl s)).name = nm at *
    generalize lowN fl s = i at *
    generalize fl.length = n at *
    have hi2 : (i : Int) < (n : Int) := by omega
    have HBx := Lib.hid (show Below w.heap.size w (w.alloc (.cells #[.int .i64 c, .int .i64 lf, .slice (some ⟨b, of, none⟩) n cap] 24)) from (Below.refl _ _).alloc (Nat.le_refl _) _)
    have X := Lib.hid (BoxD.new w c lf (.slice (some ⟨b, of, none⟩) n cap) 24)
    have HBk := Lib.hid (show ∀ W, Below w.heap.size w W → W.cell? ⟨b, of + i * 3, none⟩ = some (.string (strB nm)) ∧ W.cell? ⟨b, of + i * 3 + 1, none⟩ = some (.slice ba l bc) ∧ W.cell? ⟨b, of + i * 3 + 2, none⟩ = some (.slice pa m pc) from fun W hW => ⟨Below.keeps hW _ _ c0, Below.keeps hW _ _ c1, Below.keeps hW _ _ c2⟩)
    clear c0 c1 c2
    go_enter Tryd.func35, Tryd.ntmps35
    go_wp2_with fail
    refine (HO.out _ HBx.out).mono ?_
    rintro e w2 ⟨rfl, hb⟩
    have HB2 := Lib.hid (bstep HBx.out hb)
    have x2 := (X.out.below hb).c2
    obtain ⟨y0, y1, y2⟩ := HBk.out _ HB2.out
    clear hb
    go_wp2_with fail
    refine (HCn.out _ HB2.out).mono ?_
    rintro e w3 ⟨v3, rfl, ho, hb⟩
    have hrd := ho.rd
    obtain ⟨ca, cc, rfl, hc1, hc2, _⟩ := hrd.shape0
    have HB3 := Lib.hid (bstep HB2.out hb)
    clear hb ho x2 y0 y1 y2
    clear hrd
    generalize C.length = cl at *
    go_wp2_with fail
    go_ret2
    exact ⟨by rw [HS.out]; rfl, HB3.out⟩
  · have hS : sizeD d s = (0, atE d s) := by unfold sizeD; rw [if_pos he]
    rw [hS]
    have HO := Lib.hid hO
    clear hO h hS hL
    generalize atE d s = E at *
    generalize atI d s = i at *
    have hz1 : (E == 0) = false := beq_eq_false_iff_ne.2 he
    have hz2 : (E != 0) = true := by rw [bne_iff_ne]; exact he
    obtain ⟨c, lf, fl⟩ := d
    dsimp only at *
    generalize fl.length = n at *
    have HBx := Lib.hid (show Below w.heap.size w (w.alloc (.cells #[.int .i64 c, .int .i64 lf, .slice a n cap] 24)) from (Below.refl _ _).alloc (Nat.le_refl _) _)
    go_enter Tryd.func35, Tryd.ntmps35
    go_wp2_with fail
    refine (HO.out _ HBx.out).mono ?_
    rintro e w2 ⟨rfl, hb⟩
    have HB2 := Lib.hid (bstep HBx.out hb)
    clear hb
    go_wp2_with fail
    go_ret2
    exact ⟨rfl, HB2.out⟩
set_option maxRecDepth 100000 in
set_option maxHeartbeats 1600000 in
theorem rread_any (d : Dk) (s : List UInt8) (off k : Int) (fv : Value) (w : World) (h : RdF w fv d.files) (hL : LiteD d) (hs : s.length ≤ 9223372036854775807) :
    Calls Tryd.prog 36 #[diskVal d.cap d.left fv, .string (strB s), .int .i64 off, .int .i64 k] w (RefRd w (readD d s off k)) := by
  obtain ⟨a, cap, rfl, h1, h2, _⟩ := h.shape
  have hO := fun W (hW : Below w.heap.size w W) => rat_any d _ s W (h.below hW) hL hs
  by_cases he : atE d s = 0
  · have hi := (atE_ok he).2.2.2.1
    have hlw := hL.fs.fil _ (atN_mem hi)
    have hcl := contF_le (atN d.files (lowN d.files s))
    obtain ⟨b, of, bv, pv, rfl, hbv, hpv, c0, c1, c2⟩ := h.at hi
    have HCn := Lib.hid (fun W (hW : Below w.heap.size w W) => rcontent_any (atN d.files (lowN d.files s)).name _ _ bv pv W (hbv.below hW) (hpv.below hW) hlw)
    have HS := Lib.hid (show readD d s off k = if off < 0 ∨ k < 0 ∨ ((contF (atN d.files (lowN d.files s))).length : Int) < off ∨ ((contF (atN d.files (lowN d.files s))).length : Int) - off < k then ([], 2) else (((contF (atN d.files (lowN d.files s))).drop off.toNat).take k.toNat, 0) by unfold readD; rw [if_neg (by simp [he])])
    simp only [atI_ok he, he] at hO
    obtain ⟨ba, bc, rfl, hb1, hb2, _⟩ := hbv.shape0
    obtain ⟨pa, pc, rfl, hp1, hp2, _⟩ := hpv.shape
    have HO := Lib.hid hO
    clear hO h hbv hpv he hL hlw
    generalize readD d s off k = RR at *
    obtain ⟨c, lf, fl⟩ := d
    dsimp only at *
    change Hid (∀ W, Below w.heap.size w W → Calls Tryd.prog 38 _ W fun e w' => ∃ v', e = .returned v' ∧ OwnU w' W.heap.size v' (contF (atN fl (lowN fl s))) ∧ Below W.heap.size W w') at HCn
    generalize contF (atN fl (lowN fl s)) = C at *
    generalize (atN fl (lowN fl s)).base.length = l at *
    generalize (atN fl (lowN fl s)).pend.length = m at *
    generalize (atN fl (lowN fl s)).name = nm at *
    generalize lowN fl s = i at *
    generalize fl.length = n at *
    have hi2 : (i : Int) < (n : Int) := by omega
    have HBx := Lib.hid (show Below w.heap.size w (w.alloc (.cells #[.int .i64 c, .int .i64 lf, .slice (some ⟨b, of, none⟩) n cap] 24)) from (Below.refl _ _).alloc (Nat.le_refl _) _)
    have X := Lib.hid (BoxD.new w c lf (.slice (some ⟨b, of, none⟩) n cap) 24)
    have HBk := Lib.hid (show ∀ W, Below w.heap.size w W → W.cell? ⟨b, of + i * 3, none⟩ = some (.string (strB nm)) ∧ W.cell? ⟨b, of + i * 3 + 1, none⟩ = some (.slice ba l bc) ∧ W.cell? ⟨b, of + i * 3 + 2, none⟩ = some (.slice pa m pc) from fun W hW => ⟨Below.keeps hW _ _ c0, Below.keeps hW _ _ c1, Below.keeps hW _ _ c2⟩)
    clear c0 c1 c2
    go_enter Tryd.func36, Tryd.ntmps36
    go_wp2_with fail
    refine (HO.out _ HBx.out).mono ?_
    rintro e w2 ⟨rfl, hb⟩
    have HB2 := Lib.hid (bstep HBx.out hb)
    have x2 := (X.out.below hb).c2
    obtain ⟨y0, y1, y2⟩ := HBk.out _ HB2.out
    clear hb
    go_wp2_with fail
    refine (HCn.out _ HB2.out).mono ?_
    rintro e w3 ⟨v3, rfl, ho, hb⟩
    have hrd := ho.rd
    obtain ⟨ca, cc, rfl, hc1, hc2, _⟩ := hrd.shape0
    have HB3 := Lib.hid (bstep HB2.out hb)
    have HE := Lib.hid (fun W => RdB_nil W)
    clear hb ho x2 y0 y1 y2
    by_cases q1 : off < 0
    · have HR := Lib.hid (show RR = ([], 2) by rw [HS.out, if_pos (.inl q1)])
      clear hrd
      generalize C.length = cl at *
      go_wp2_with fail
      go_ret2
      exact ⟨_, by rw [HR.out]; rfl, by rw [HR.out]; exact HE.out _, HB3.out⟩
    · by_cases q2 : k < 0
      · have HR := Lib.hid (show RR = ([], 2) by rw [HS.out, if_pos (.inr (.inl q2))])
        clear hrd
        generalize C.length = cl at *
        go_wp2_with fail
        go_ret2
        exact ⟨_, by rw [HR.out]; rfl, by rw [HR.out]; exact HE.out _, HB3.out⟩
      · by_cases q3 : (C.length : Int) < off
        · have HR := Lib.hid (show RR = ([], 2) by rw [HS.out, if_pos (.inr (.inr (.inl q3)))])
          clear hrd
          generalize C.length = cl at *
          go_wp2_with fail
          go_ret2
          exact ⟨_, by rw [HR.out]; rfl, by rw [HR.out]; exact HE.out _, HB3.out⟩
        · by_cases q4 : (C.length : Int) - off < k
          · have HR := Lib.hid (show RR = ([], 2) by rw [HS.out, if_pos (.inr (.inr (.inr q4)))])
            clear hrd
            generalize C.length = cl at *
            go_wp2_with fail
            go_ret2
            exact ⟨_, by rw [HR.out]; rfl, by rw [HR.out]; exact HE.out _, HB3.out⟩
          · have HR := Lib.hid (show RR = ((C.drop off.toNat).take k.toNat, 0) by rw [HS.out, if_neg (by omega)])
            obtain ⟨o, rfl⟩ := Int.eq_ofNat_of_zero_le (by omega : 0 ≤ off)
            obtain ⟨q, rfl⟩ := Int.eq_ofNat_of_zero_le (by omega : 0 ≤ k)
            obtain ⟨sa, sc, gs, hsr⟩ := RdL.part (P := Tryd.prog) elemU8 hrd o (o + q) (by omega) (by omega)
            rw [show o + q - o = q by omega] at gs hsr
            have HF := Lib.hid hsr
            clear hrd hsr
            generalize C.length = cl at *
            have gs2 : ∀ W kl kh, (Instr.slice 47 (.slice ca cl cc) (some (.int kl (o : Int))) (some (.int kh ((o : Int) + (q : Int)))) none).run Tryd.prog W = .ok (.slice sa q sc) W := fun W kl kh => by
              have := gs W kl kh
              rw [show ((o + q : Nat) : Int) = (o : Int) + (q : Int) by omega] at this
              exact this
            clear gs
            go_wp2_with fail
            go_ret2
            exact ⟨_, by rw [HR.out]; rfl, by rw [HR.out]; exact HF.out, HB3.out⟩
  · have hS : readD d s off k = ([], atE d s) := by unfold readD; rw [if_pos he]
    rw [hS]
    have HO := Lib.hid hO
    have HE := Lib.hid (fun W => RdB_nil W)
    clear hO h hS hL
    generalize atE d s = E at *
    generalize atI d s = i at *
    have hz1 : (E == 0) = false := beq_eq_false_iff_ne.2 he
    have hz2 : (E != 0) = true := by rw [bne_iff_ne]; exact he
    obtain ⟨c, lf, fl⟩ := d
    dsimp only at *
    generalize fl.length = n at *
    have HBx := Lib.hid (show Below w.heap.size w (w.alloc (.cells #[.int .i64 c, .int .i64 lf, .slice a n cap] 24)) from (Below.refl _ _).alloc (Nat.le_refl _) _)
    go_enter Tryd.func36, Tryd.ntmps36
    go_wp2_with fail
    refine (HO.out _ HBx.out).mono ?_
    rintro e w2 ⟨rfl, hb⟩
    have HB2 := Lib.hid (bstep HBx.out hb)
    clear hb
    go_wp2_with fail
    go_ret2
    exact ⟨_, rfl, HE.out _, HB2.out⟩
end Go.Proofs.YtkabcpmnbjllcaaDoor

namespace Go.Proofs.YtkabcpmnbjllcaaDoor
open Go.RowKit

set_option maxRecDepth 100000 in
set_option maxHeartbeats 3200000 in
theorem rnames_any (d : Dk) (fv : Value) (w : World) (h : RdF w fv d.files) (hL : LiteD d) :
    Calls Tryd.prog 34 #[diskVal d.cap d.left fv] w fun e w' => ∃ v', e = .returned v' ∧ OwnN w' w.heap.size v' (namesD d) ∧ Below w.heap.size w w' := by
  obtain ⟨a, cap, rfl, h1, h2, _⟩ := h.shape
  have HV := Lib.hid (fun W (hW : Below w.heap.size w W) => rvalid_any d.cap d.left _ d.files W (h.below hW) hL.fs)
  have HS := Lib.hid (show namesD d = if validD d then (d.files.take d.files.length).map (·.name) else [] by rw [List.take_length]; rfl)
  have HN := Lib.hid (show ∀ k, k < d.files.length → (d.files.take (k + 1)).map (·.name) = (d.files.take k).map (·.name) ++ [(atN d.files k).name] from fun k hk => names_take _ k hk)
  have HR := Lib.hid h
  have hlen := hL.len
  have hln : ∀ k, k ≤ d.files.length → ((d.files.take k).map (·.name)).length = k := fun k hk => by rw [List.length_map, List.length_take]; omega
  have HLn := Lib.hid hln
  clear h hL hln
  change Hid (∀ W, Below w.heap.size w W → Calls Tryd.prog 18 #[diskVal d.cap d.left (.slice a d.files.length cap)] W fun e w' => e = .returned (.bool (validD d)) ∧ Below W.heap.size W w') at HV
  generalize namesD d = R at *
  generalize validD d = vb at *
  obtain ⟨c, lf, fl⟩ := d
  dsimp only at *
  generalize fl.length = n at *
  have HBx := Lib.hid (show Below w.heap.size w (w.alloc (.cells #[.int .i64 c, .int .i64 lf, .slice a n cap] 24)) from (Below.refl _ _).alloc (Nat.le_refl _) _)
  have X := Lib.hid (BoxD.new w c lf (.slice a n cap) 24)
  go_enter Tryd.func34, Tryd.ntmps34
  go_upto_region 1 with fail
  generalize w.alloc (.cells #[.int .i64 c, .int .i64 lf, .slice a n cap] 24) = w0 at *
  go_wp2_with fail
  cases vb
  · go_loopw [3, 4] (fun v iv W => v = .slice none 0 0 ∧ iv = .int .i64 0 ∧ Hid (Below w0.heap.size w0 W)) (fun _ _ _ => 0)
    case atStart => exact ⟨rfl, rfl, Lib.hid (Below.refl _ _)⟩
    case round =>
      obtain ⟨rfl, rfl, HB⟩ := hrel
      have XB := Lib.hid (X.out.below HB.out)
      have HBw := Lib.hid (bstep HBx.out HB.out)
      have x0 := XB.out.c0
      have x1 := XB.out.c1
      have x2 := XB.out.c2
      by_cases hlt : 0 < n
      · have i1 : (0 : Int) < (n : Int) := by omega
        go_wp2_with fail
        refine (HV.out _ HBw.out).mono ?_
        rintro e w2 ⟨rfl, hb⟩
        have HB2 := Lib.hid (bstep HBw.out hb)
        clear hb x0 x1 x2
        go_wp2_with fail
        go_ret
        exact ⟨_, rfl, by rw [HS.out]; exact OwnN.nil _ _, HB2.out⟩
      · have i1 : ¬ (0 : Int) < (n : Int) := by omega
        go_wp2_with fail
        go_ret
        exact ⟨_, rfl, by rw [HS.out]; exact OwnN.nil _ _, HBw.out⟩
  · go_loopw [3, 4] (fun v iv W => ∃ k : Nat, k ≤ n ∧ iv = .int .i64 (k : Int) ∧ Hid (OwnN W w0.heap.size v ((fl.take k).map (·.name))) ∧ Hid (Below w0.heap.size w0 W)) (fun _ iv _ => n - (intOf iv).toNat)
    case atStart => exact ⟨0, Nat.zero_le _, rfl, Lib.hid (OwnN.nil _ _), Lib.hid (Below.refl _ _)⟩
    case round =>
      obtain ⟨k, hk, rfl, HO, HB⟩ := hrel
      have XB := Lib.hid (X.out.below HB.out)
      have HBw := Lib.hid (bstep HBx.out HB.out)
      have x0 := XB.out.c0
      have x1 := XB.out.c1
      have x2 := XB.out.c2
      by_cases hlt : k < n
      · have i1 : (k : Int) < (n : Int) := by omega
        have ho := HO.out
        unfold OwnN at ho
        rw [HLn.out k hk] at ho
        obtain ⟨la, lc, hv, _⟩ := own_form ho
        subst hv
        clear HO
        go_wp2_with fail
        refine (HV.out _ HBw.out).mono ?_
        rintro e w2 ⟨rfl, hb⟩
        have HB2 := Lib.hid (bstep HBw.out hb)
        have HB20 := Lib.hid (bstep HB.out hb)
        have HO2 := Lib.hid (own_keep ho hb)
        have XB2 := Lib.hid (XB.out.below hb)
        clear hb x0 x1 x2 ho XB
        have x2 := XB2.out.c2
        obtain ⟨b, off, bv, pv, rfl, _, _, c0, _, _⟩ := (HR.out.below HB2.out).at hlt
        have HNk := Lib.hid (HN.out k hlt)
        generalize (atN fl k).name = nm at *
        have hsz : w0.heap.size ≤ w2.heap.size := HB20.out.size
        have HBV := Lib.hid (show Below w2.heap.size w2 (w2.alloc (.cells #[.string (strB nm)] 9)) from (Below.refl _ _).alloc (Nat.le_refl _) _)
        have HOw := Lib.hid (own_keep HO2.out HBV.out)
        go_wp2_with (at_builtin; go_must (refine wpList_app (m := 1) rfl (.tmp 16) (.tmp 23) 59 rfl elemS w0.heap.size rfl HOw.out rfl (Rd.newK w2.heap.size w2 rfl 1 [.string (strB nm)] 9 1 rfl (by decide)) (fun u hu => by simp at hu; subst hu; rfl) (by unfold maxLen; omega) (by omega) (by simp; omega) ?_); intro v4 w4 hown4 hgr4 hv4; clear hv4)
        have HB4 := Lib.hid (own_below (HB20.out.trans (HBV.out.mono hsz)) HOw.out (Nat.le_trans hsz HBV.out.size) hgr4)
        have HO4 := Lib.hid (show OwnN w4 w0.heap.size v4 ((fl.take (k + 1)).map (·.name)) from by
          unfold OwnN
          rw [HLn.out (k + 1) hlt, HNk.out, List.map_append]
          exact hown4)
        clear hown4 hgr4
        go_wp2_with fail
        exact ⟨⟨k + 1, hlt, by go_num, HO4, HB4⟩, by simp [intOf]; omega⟩
      · have i1 : ¬ (k : Int) < (n : Int) := by omega
        obtain rfl : k = n := by omega
        have HF := Lib.hid (HS.out)
        go_wp2_with fail
        go_ret
        exact ⟨_, rfl, by rw [HF.out]; exact World.ownsRow.mono HO.out HBx.out.size, HBw.out⟩
end Go.Proofs.YtkabcpmnbjllcaaDoor
