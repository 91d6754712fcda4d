/- Several texts in one, each over the last: Valid of the reference: the walk. Printed by mkDra.py. ready, at of the reference: the walks. Size, Read of the reference: the walks. Printed by mkDrc.py. Names of the reference: the walk. -/
import Derived.Test.YtkabcpmnbjllcaaDoorKB
namespace Go.Proofs.YtkabcpmnbjllcaaDoor
open Go.RowKit

set_option maxRecDepth 100000 in
set_option maxHeartbeats 3200000 in
theorem rvalid_any (c lf : Int) (fv : Value) (l : List Fil) (w : World) (h : RdF w fv l) (hL : LiteFs l) :
    Calls Tryd.prog 18 #[diskVal c lf fv] w fun e w' => e = .returned (.bool (validD ⟨c, lf, l⟩)) ∧ Below w.heap.size w w' := by
  obtain ⟨a, cap, rfl, h1, h2, h3⟩ := h.shape
  have HR := Lib.hid h
  have HV := Lib.hid (show validD ⟨c, lf, l⟩ = (decide (0 ≤ c) && decide (-1 ≤ lf) && decide (l.length ≤ 256) && (l.all okF && ascN l)) by unfold validD; simp only [Bool.and_assoc])
  have HA := Lib.hid (vldK_all l)
  have HN := Lib.hid (fun k => vldK_no l k)
  have H0 := Lib.hid (vldK_zero l)
  have H1 := Lib.hid (vldK_first l)
  have HS := Lib.hid (fun j => vldK_next l j)
  have HLf := Lib.hid (fun i (hi : i < l.length) => hL.at hi)
  unfold maxLen at h2
  clear h h3 hL
  generalize (l.all okF && ascN l) = A at *
  generalize validD ⟨c, lf, l⟩ = R at *
  generalize l.length = n at *
  have HBx := Lib.hid (show Below w.heap.size w (w.alloc (.cells #[.int .i64 c, .int .i64 lf, .slice a n cap] 24)) from (Below.refl _ _).alloc (Nat.le_refl _) _)
  by_cases hc : c < 0
  · have HX := Lib.hid (show false = R by rw [HV.out, decide_eq_false (show ¬ 0 ≤ c by omega)]; rfl)
    go_enter Tryd.func18, Tryd.ntmps18
    go_wp2_with fail
    go_ret
    exact ⟨ret_bool HX.out, HBx.out⟩
  · by_cases hl : lf < -1
    · have HX := Lib.hid (show false = R by rw [HV.out, decide_eq_false (show ¬ -1 ≤ lf by omega), Bool.and_false]; rfl)
      go_enter Tryd.func18, Tryd.ntmps18
      go_wp2_with fail
      go_ret
      exact ⟨ret_bool HX.out, HBx.out⟩
    · by_cases hn : 256 < n
      · have i1 : (256 : Int) < (n : Int) := by omega
        have HX := Lib.hid (show false = R by rw [HV.out, decide_eq_false (show ¬ n ≤ 256 by omega), Bool.and_false]; rfl)
        go_enter Tryd.func18, Tryd.ntmps18
        go_wp2_with fail
        go_ret
        exact ⟨ret_bool HX.out, HBx.out⟩
      · have i1 : ¬ (256 : Int) < (n : Int) := by omega
        have HX := Lib.hid (show R = A by rw [HV.out, decide_eq_true (show 0 ≤ c by omega), decide_eq_true (show -1 ≤ lf by omega), decide_eq_true (show n ≤ 256 by omega)]; rfl)
        clear HV
        go_enter Tryd.func18, Tryd.ntmps18
        go_wp2_with fail
        have HC2 := Lib.hid (show (w.alloc (.cells #[.int .i64 c, .int .i64 lf, .slice a n cap] 24)).cell? ⟨w.heap.size, 2, none⟩ = some (.slice a n cap) by simp)
        generalize w.alloc (.cells #[.int .i64 c, .int .i64 lf, .slice a n cap] 24) = W0 at *
        go_loopw [3] (fun iv W => ∃ k : Nat, k ≤ n ∧ iv = .int .i64 (k : Int) ∧ Hid (vldK l k = true) ∧ Hid (Below W0.heap.size W0 W)) (fun iv _ => n - (intOf iv).toNat)
        case atStart => exact ⟨0, Nat.zero_le _, rfl, H0, Lib.hid (Below.refl _ _)⟩
        case round =>
          obtain ⟨k, hk, rfl, HK, HB⟩ := hrel
          have d3 := Below.keeps HB.out _ _ HC2.out
          by_cases hlt : k < n
          · have i2 : (k : Int) < (n : Int) := by omega
            have hrd := HR.out.below (bstep HBx.out HB.out)
            obtain ⟨b, off, bv, pv, rfl, hb, hp, c0, c1, c2⟩ := hrd.at hlt
            obtain ⟨ba, bc, rfl, _⟩ := hb.shape0
            obtain ⟨pa, pc, rfl, _⟩ := hp.shape
            have hLk := HLf.out k hlt
            have HVf := Lib.hid (fun W (hW : Below wr.heap.size wr W) => rvfile_any (atN l k).name (atN l k).base (atN l k).pend _ _ W (hb.below hW) (hp.below hW) hLk)
            change Hid (∀ W, Below wr.heap.size wr W → Calls Tryd.prog 47 #[.agg #[.string (strB (atN l k).name), .slice ba (atN l k).base.length bc, .slice pa (atN l k).pend.length pc]] W fun e w' => e = .returned (.bool (okF (atN l k))) ∧ Below W.heap.size W w') at HVf
            generalize hs : strB (atN l k).name = s at *
            have Hs := Lib.hid hs
            clear hs
            have Hle := Lib.hid (fun t => le_str (atN l k).name t)
            have Hsm := Lib.hid (fun t => same_str (atN l k).name t)
            have Hls := Lib.hid (fun t => show Op.bytesLess (strB (atN l k).name).toList (strB t).toList = decide ((atN l k).name < t) by rw [strB_toList, strB_toList, less_eq])
            rw [Hs.out] at Hle Hsm Hls
            clear hb hp hLk
            generalize (atN l k).base.length = bl at *
            generalize (atN l k).pend.length = pl at *
            generalize hob : okF (atN l k) = ob at *
            have HQ := Lib.hid hob
            clear hob
            cases ob
            · have HY := Lib.hid (show false = R by
                rw [HX.out, HN.out (k + 1) (by
                  rcases Nat.eq_zero_or_pos k with e | e
                  · subst e; rw [H1.out hlt, HQ.out]
                  · obtain ⟨j, rfl⟩ : ∃ j, k = j + 1 := ⟨k - 1, by omega⟩
                    rw [HS.out j hlt, HQ.out]; simp)])
              go_upto_region 6 with fail
              have e0 := cell_by c0
              have e1 := cell_by c1
              have e2 := cell_by c2
              have e3 := cell_by d3
              clear c0 c1 c2 d3
              refine wp_region_below (by kernel_rfl) (by kernel_rfl) ?_
              repeat (go_big_quiet_step ((with_reducible exact calls_by (HVf.out _ (BelowBy.h _)))))
              refine wpQuiet_nil ?_
              intro _ hw'
              obtain ⟨u, hw'⟩ := hw'
              subst hw'
              have HBu := Lib.hid (bstep HB.out u.h)
              generalize u.w' = W7 at *
              clear e0 e1 e2 e3
              go_wp2_with fail
              go_ret
              exact ⟨ret_bool HY.out, bstep HBx.out HBu.out⟩
            · by_cases h0 : k = 0
              · subst h0
                rw [Nat.zero_mul, Nat.add_zero] at c0 c1 c2
                have g1 : decide ((0 : Int) < ((0 : Nat) : Int)) = false := rfl
                have g2 : decide ((0 : Int) < 0) = false := rfl
                have g3 : ¬ (0 : Int) < 0 := by omega
                have HY := Lib.hid (show vldK l (0 + 1) = true by rw [show 0 + 1 = 1 from rfl, H1.out hlt, HQ.out])
                go_upto_region 6 with fail
                have e0 := cell_by c0
                have e1 := cell_by c1
                have e2 := cell_by c2
                have e3 := cell_by d3
                clear c0 c1 c2 d3
                refine wp_region_below (by kernel_rfl) (by kernel_rfl) ?_
                repeat (go_big_quiet_step ((with_reducible exact calls_by (HVf.out _ (BelowBy.h _)))))
                refine wpQuiet_nil ?_
                intro _ hw'
                obtain ⟨u, hw'⟩ := hw'
                subst hw'
                have HBu := Lib.hid (bstep HB.out u.h)
                generalize u.w' = W7 at *
                clear e0 e1 e2 e3
                go_wp2_with fail
                exact ⟨⟨0 + 1, by omega, by go_num, HY, HBu⟩, by simp [intOf]; omega⟩
              · obtain ⟨j, rfl⟩ : ∃ j, k = j + 1 := ⟨k - 1, by omega⟩
                obtain ⟨b', off', bv', pv', eqa, _, _, f0, _, _⟩ := hrd.at (show j < n by omega)
                injection eqa with eqa
                injection eqa with eqb eqo
                subst eqb eqo
                have HSj := Lib.hid (HS.out j hlt)
                have Hlej := Lib.hid (Hle.out (atN l j).name)
                have Hsmj := Lib.hid (Hsm.out (atN l j).name)
                have Hlsj := Lib.hid (Hls.out (atN l j).name)
                have i3 : (0 : Int) < (j : Int) + 1 := by omega
                clear Hle Hsm Hls h0 hrd
                generalize strB (atN l j).name = t at *
                by_cases hlt2 : (atN l j).name < (atN l (j + 1)).name
                · have HY := Lib.hid (show vldK l (j + 1 + 1) = true by rw [HSj.out, HK.out, HQ.out, decide_eq_true hlt2]; rfl)
                  have b0 := Hlej.out
                  rw [decide_eq_true hlt2] at b0
                  have b1 : Op.bytesLess s.toList t.toList = false := by cases e : Op.bytesLess s.toList t.toList; rfl; rw [e] at b0; cases b0
                  have b2 : (s.toList == t.toList) = false := by rw [b1] at b0; simpa using b0
                  clear b0 Hlej Hsmj Hlsj
                  go_upto_region 6 with fail
                  have e0 := cell_by c0
                  have e1 := cell_by c1
                  have e2 := cell_by c2
                  have e3 := cell_by d3
                  have e4 := cell_by f0
                  clear c0 c1 c2 d3 f0
                  refine wp_region_below (by kernel_rfl) (by kernel_rfl) ?_
                  repeat (go_big_quiet_step ((with_reducible exact calls_by (HVf.out _ (BelowBy.h _)))))
                  refine wpQuiet_nil ?_
                  intro _ hw'
                  obtain ⟨u, hw'⟩ := hw'
                  subst hw'
                  have HBu := Lib.hid (bstep HB.out u.h)
                  generalize u.w' = W7 at *
                  clear e0 e1 e2 e3 e4
                  go_wp2_with fail
                  exact ⟨⟨j + 1 + 1, by omega, by go_num, HY, HBu⟩, by simp [intOf]; omega⟩
                · have HY := Lib.hid (show false = R by
                    rw [HX.out, HN.out (j + 1 + 1) (by rw [HSj.out, HK.out, HQ.out, decide_eq_false hlt2]; rfl)])
                  by_cases heq : (atN l (j + 1)).name = (atN l j).name
                  · have b2 := Hsmj.out
                    rw [beq_iff_eq.2 heq] at b2
                    have b1 := Hlsj.out
                    rw [decide_eq_false (show ¬ (atN l (j + 1)).name < (atN l j).name by rw [heq]; exact lex_irrefl _)] at b1
                    clear Hlej Hsmj Hlsj
                    go_upto_region 6 with fail
                    have e0 := cell_by c0
                    have e1 := cell_by c1
                    have e2 := cell_by c2
                    have e3 := cell_by d3
                    have e4 := cell_by f0
                    clear c0 c1 c2 d3 f0
                    refine wp_region_below (by kernel_rfl) (by kernel_rfl) ?_
                    repeat (go_big_quiet_step ((with_reducible exact calls_by (HVf.out _ (BelowBy.h _)))))
                    refine wpQuiet_nil ?_
                    intro _ hw'
                    obtain ⟨u, hw'⟩ := hw'
                    subst hw'
                    have HBu := Lib.hid (bstep HB.out u.h)
                    generalize u.w' = W7 at *
                    clear e0 e1 e2 e3 e4
                    go_wp2_with fail
                    go_ret
                    exact ⟨ret_bool HY.out, bstep HBx.out HBu.out⟩
                  · have b1 := Hlsj.out
                    rw [decide_eq_true (show (atN l (j + 1)).name < (atN l j).name by
                      rcases lex_tri (atN l (j + 1)).name (atN l j).name with e | e | e
                      · exact e
                      · exact absurd e heq
                      · exact absurd e hlt2)] at b1
                    clear Hlej Hsmj Hlsj
                    go_upto_region 6 with fail
                    have e0 := cell_by c0
                    have e1 := cell_by c1
                    have e2 := cell_by c2
                    have e3 := cell_by d3
                    have e4 := cell_by f0
                    clear c0 c1 c2 d3 f0
                    refine wp_region_below (by kernel_rfl) (by kernel_rfl) ?_
                    repeat (go_big_quiet_step ((with_reducible exact calls_by (HVf.out _ (BelowBy.h _)))))
                    refine wpQuiet_nil ?_
                    intro _ hw'
                    obtain ⟨u, hw'⟩ := hw'
                    subst hw'
                    have HBu := Lib.hid (bstep HB.out u.h)
                    generalize u.w' = W7 at *
                    clear e0 e1 e2 e3 e4
                    go_wp2_with fail
                    go_ret
                    exact ⟨ret_bool HY.out, bstep HBx.out HBu.out⟩
          · have i2 : ¬ (k : Int) < (n : Int) := by omega
            obtain rfl : k = n := by omega
            have HY := Lib.hid (show true = R by rw [HX.out, ← HA.out, HK.out])
            go_wp2_with fail
            go_ret
            exact ⟨ret_bool HY.out, bstep HBx.out HB.out⟩
end Go.Proofs.YtkabcpmnbjllcaaDoor

namespace Go.Proofs.YtkabcpmnbjllcaaDoor
open Go.RowKit

set_option maxRecDepth 100000 in
set_option maxHeartbeats 1600000 in
theorem rready_any (c lf : Int) (fv : Value) (l : List Fil) (s : List UInt8) (w : World) (h : RdF w fv l) (hL : LiteFs l) (hs : s.length ≤ 9223372036854775807) :
    Calls Tryd.prog 89 #[diskVal c lf fv, .string (strB s)] w fun e w' => e = .returned (.int .i64 (readyE ⟨c, lf, l⟩ s)) ∧ Below w.heap.size w w' := by
  obtain ⟨a, cap, rfl, h1, h2, _⟩ := h.shape
  have HV := Lib.hid (fun W (hW : Below w.heap.size w W) => rvalid_any c lf _ l W (h.below hW) hL)
  have HN := Lib.hid (show ∀ W, Calls Tryd.prog 24 #[.string (strB s)] W fun e w' => e = .returned (.bool (nameB s)) ∧ W = w' from fun W => rvname_any (strB s) W (by rw [strB_size]; exact hs))
  have HR := Lib.hid (show readyE ⟨c, lf, l⟩ s = if !(validD ⟨c, lf, l⟩ && nameB s) then 1 else if lf = 0 then 13 else 0 from rfl)
  clear h hL hs
  generalize readyE ⟨c, lf, l⟩ s = Q at *
  generalize validD ⟨c, lf, l⟩ = vb at *
  generalize nameB s = nb at *
  generalize l.length = n at *
  generalize strB s = sv at *
  have HBx := Lib.hid (show Below w.heap.size w (w.alloc (.cells #[.int .i64 c, .int .i64 lf, .slice a n cap] 24)) from (Below.refl _ _).alloc (Nat.le_refl _) _)
  have X := Lib.hid (BoxD.new w c lf (.slice a n cap) 24)
  cases vb
  · have HE := Lib.hid (show Q = 1 by rw [HR.out]; rfl)
    go_enter Tryd.func89, Tryd.ntmps89
    go_wp2_with fail
    refine (HV.out _ HBx.out).mono ?_
    rintro e w1 ⟨rfl, hb1⟩
    have HB1 := Lib.hid (bstep HBx.out hb1)
    clear hb1
    go_wp2_with fail
    go_ret
    exact ⟨by rw [HE.out]; rfl, HB1.out⟩
  · cases nb
    · have HE := Lib.hid (show Q = 1 by rw [HR.out]; rfl)
      go_enter Tryd.func89, Tryd.ntmps89
      go_wp2_with fail
      refine (HV.out _ HBx.out).mono ?_
      rintro e w1 ⟨rfl, hb1⟩
      have HB1 := Lib.hid (bstep HBx.out hb1)
      clear hb1
      go_wp2_with fail
      refine (HN.out _).mono ?_
      rintro e w2 ⟨rfl, rfl⟩
      go_wp2_with fail
      go_ret
      exact ⟨by rw [HE.out]; rfl, HB1.out⟩
    · by_cases hl : lf = 0
      · have HE := Lib.hid (show Q = 13 by rw [HR.out, if_neg (by simp), if_pos hl])
        subst hl
        go_enter Tryd.func89, Tryd.ntmps89
        go_wp2_with fail
        refine (HV.out _ HBx.out).mono ?_
        rintro e w1 ⟨rfl, hb1⟩
        have HB1 := Lib.hid (bstep HBx.out hb1)
        have x1 := (X.out.below hb1).c1
        clear hb1
        go_wp2_with fail
        refine (HN.out _).mono ?_
        rintro e w2 ⟨rfl, rfl⟩
        go_wp2_with fail
        go_ret
        exact ⟨by rw [HE.out]; rfl, HB1.out⟩
      · have HE := Lib.hid (show Q = 0 by rw [HR.out, if_neg (by simp), if_neg hl])
        have hl' : (lf == 0) = false := beq_eq_false_iff_ne.2 hl
        go_enter Tryd.func89, Tryd.ntmps89
        go_wp2_with fail
        refine (HV.out _ HBx.out).mono ?_
        rintro e w1 ⟨rfl, hb1⟩
        have HB1 := Lib.hid (bstep HBx.out hb1)
        have x1 := (X.out.below hb1).c1
        clear hb1
        go_wp2_with fail
        refine (HN.out _).mono ?_
        rintro e w2 ⟨rfl, rfl⟩
        go_wp2_with fail
        go_ret
        exact ⟨by rw [HE.out]; rfl, HB1.out⟩
def atI (d : Dk) (s : List UInt8) : Int := if atE d s = 0 then (lowN d.files s : Int) else -1
set_option maxRecDepth 100000 in
set_option maxHeartbeats 1600000 in
theorem rat_any (d : Dk) (fv : Value) (s : List UInt8) (w : World) (h : RdF w fv d.files) (hL : LiteD d) (hs : s.length ≤ 9223372036854775807) :
    Calls Tryd.prog 59 #[diskVal d.cap d.left fv, .string (strB s)] w fun e w' => e = .returned (.tuple #[.int .i64 (atI d s), .int .i64 (atE d s)]) ∧ Below w.heap.size w w' := by
  obtain ⟨a, cap, rfl, h1, h2, _⟩ := h.shape
  have HQ := Lib.hid (fun W (hW : Below w.heap.size w W) => rready_any d.cap d.left _ d.files s W (h.below hW) hL.fs hs)
  have HF := Lib.hid (fun (hv : VldD d) W (hW : Below w.heap.size w W) => rfind_any d.cap d.left _ d.files s W (h.below hW) hv.asc (by have := hL.len; omega))
  have HR0 := Lib.hid (fun e => readyE_ok (d := d) (s := s) e)
  have HA := Lib.hid (show atE d s = if readyE d s ≠ 0 then readyE d s else if hasN d.files s then 0 else 6 from rfl)
  have HI := Lib.hid (show atI d s = if atE d s = 0 then (lowN d.files s : Int) else -1 from rfl)
  have HFi := Lib.hid (show rfndI d.files s = if hasN d.files s then (lowN d.files s : Int) else -1 from rfl)
  clear h hs
  generalize atI d s = I at *
  generalize atE d s = E at *
  change Hid (∀ W, Below w.heap.size w W → Calls _ _ _ W fun e w' => e = .returned (.int .i64 (readyE d s)) ∧ Below W.heap.size W w') at HQ
  generalize readyE d s = Q at *
  generalize hasN d.files s = hb at *
  generalize rfndI d.files s = fi at *
  generalize lowN d.files s = lo at *
  generalize strB s = sv at *
  generalize d.files.length = n at *
  obtain ⟨c, lf, fl⟩ := d
  dsimp only at *
  have HBx := Lib.hid (show Below w.heap.size w (w.alloc (.cells #[.int .i64 c, .int .i64 lf, .slice a n cap] 24)) from (Below.refl _ _).alloc (Nat.le_refl _) _)
  have X := Lib.hid (BoxD.new w c lf (.slice a n cap) 24)
  by_cases hq : Q = 0
  · subst hq
    have HFt := Lib.hid (HF.out (HR0.out rfl).1)
    cases hb
    · have HE := Lib.hid (show E = 6 by rw [HA.out]; rfl)
      have HE2 := Lib.hid (show I = -1 by rw [HI.out, HE.out]; rfl)
      have hfi : fi = -1 := HFi.out
      subst hfi
      go_enter Tryd.func59, Tryd.ntmps59
      go_wp2_with fail
      refine (HQ.out _ HBx.out).mono ?_
      rintro e w1 ⟨rfl, hb1⟩
      replace X := Lib.hid (X.out.below hb1)
      have HB1 := Lib.hid (bstep HBx.out hb1)
      have x0 := X.out.c0
      have x1 := X.out.c1
      have x2 := X.out.c2
      clear hb1
      go_wp2_with fail
      refine (HFt.out _ HB1.out).mono ?_
      rintro e w2 ⟨rfl, hb2⟩
      have HB2 := Lib.hid (bstep HB1.out hb2)
      clear hb2
      go_wp2_with fail
      go_ret2
      exact ⟨by rw [HE.out, HE2.out]; rfl, HB2.out⟩
    · have HE := Lib.hid (show E = 0 by rw [HA.out]; rfl)
      have HE2 := Lib.hid (show I = (lo : Int) by rw [HI.out, HE.out]; rfl)
      have hfi : fi = (lo : Int) := HFi.out
      subst hfi
      have i1 : ¬ (lo : Int) < 0 := by omega
      go_enter Tryd.func59, Tryd.ntmps59
      go_wp2_with fail
      refine (HQ.out _ HBx.out).mono ?_
      rintro e w1 ⟨rfl, hb1⟩
      replace X := Lib.hid (X.out.below hb1)
      have HB1 := Lib.hid (bstep HBx.out hb1)
      have x0 := X.out.c0
      have x1 := X.out.c1
      have x2 := X.out.c2
      clear hb1
      go_wp2_with fail
      refine (HFt.out _ HB1.out).mono ?_
      rintro e w2 ⟨rfl, hb2⟩
      have HB2 := Lib.hid (bstep HB1.out hb2)
      clear hb2
      go_wp2_with fail
      go_ret2
      exact ⟨by rw [HE.out, HE2.out]; rfl, HB2.out⟩
  · have HE := Lib.hid (show E = Q by rw [HA.out, if_pos hq])
    have HE2 := Lib.hid (show I = -1 by rw [HI.out, HE.out, if_neg hq])
    have hz1 : (Q == 0) = false := beq_eq_false_iff_ne.2 hq
    have hz2 : (Q != 0) = true := by rw [bne_iff_ne]; exact hq
    go_enter Tryd.func59, Tryd.ntmps59
    go_wp2_with fail
    refine (HQ.out _ HBx.out).mono ?_
    rintro e w1 ⟨rfl, hb1⟩
    have HB1 := Lib.hid (bstep HBx.out hb1)
    clear hb1
    go_wp2_with fail
    go_ret2
    exact ⟨by rw [HE.out, HE2.out]; rfl, HB1.out⟩
end Go.Proofs.YtkabcpmnbjllcaaDoor

namespace Go.Proofs.YtkabcpmnbjllcaaDoor
open Go.RowKit

end Go.Proofs.YtkabcpmnbjllcaaDoor

namespace Go.Proofs.YtkabcpmnbjllcaaDoor
open Go.RowKit

end Go.Proofs.YtkabcpmnbjllcaaDoor
