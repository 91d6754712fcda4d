/- Several texts in one, each over the last: Slices of uint64. Kill: the reference's and the program's. Printed by genHe.py. -/
import Derived.Test.YtenkeodfijladaaGreatDoorDf
import Derived.Test.YtenkeodfijladaaGreatDoorGN
import Derived.Test.YtenkeodfijladaaGreatDoorGB
namespace Go.Proofs.YtenkeodfijladaaGreatDoor
open Go.RowKit

theorem elemU : ElemT Tryz.prog 29 32 1 8 := by
  obtain ⟨i, hi, hz, hs, hb⟩ := info_parts (P := Tryz.prog) (e := 32) (z := .int .u64 0) (size := 1) (bytes := 8) (by kernel_rfl)
  exact ⟨Tryz.underlying29, by decide, i, _, hi, hz, hs, hb, rfl⟩
theorem ulist_one (l : List Int) : ∀ u ∈ l.map u64V, u.oneCell' = true := one_map _ (fun _ => rfl) l
end Go.Proofs.YtenkeodfijladaaGreatDoor

namespace Go.Proofs.YtenkeodfijladaaGreatDoor
open Go.RowKit

theorem take_snocI {l : List Int} {i : Nat} (h : i < l.length) : l.take (i + 1) = l.take i ++ [uat l i] := by
  unfold uat
  rw [List.take_add_one, List.getElem?_eq_getElem h, List.getD_eq_getElem?_getD, List.getElem?_eq_getElem h]; rfl
set_option maxRecDepth 100000 in
set_option maxHeartbeats 16000000 in
theorem rkill_any (g : Gn) (s : Sl) (v : Value) (ks : List Int) (w : World) (h : RdM w s g.m.st) (hs : ∀ i, i < 8 → (g.m.st i).length ≤ 9000) (hr : RdU w v ks) (hkl : ks.length ≤ 100000) :
    Calls Tryz.prog 14 #[genV g.num g.rev g.mode g.size s g.m.live g.m.garb, v] w (GOO w s g.m.st (killG g ks)) := by
  obtain ⟨va, vc, rfl, hv1, hv2, _⟩ := hr.shape 0
  have hs9 : ∀ i, i < 8 → (g.m.st i).length ≤ 10000 := fun i hi => Nat.le_trans (hs i hi) (by omega)
  have HV := Lib.hid (fun W (hb : Below w.heap.size w W) => rgvalid_any g s W (h.below hb) hs9)
  have HRn := Lib.hid hr
  have HRm := Lib.hid h
  have HR0 := Lib.hid (show ∀ W, OldOwn W w.heap.size s g.m.st Sl.nil gn0.m.st from fun W => OldOwn.nil W _ _ _)
  have HG := Lib.hid (show killG g ks = if vldG g = true then (if g.mode = 1 then (12, gn0) else (0, { g with m := ks.foldl delM g.m })) else (1, gn0) from rfl)
  have HLn := Lib.hid (fun i => delAll_len (ks.take i) g.m hs)
  have HSt := Lib.hid (show ∀ i, i < ks.length → (ks.take (i + 1)).foldl delM g.m = delM ((ks.take i).foldl delM g.m) (uat ks i) from fun i hi => by rw [take_snocI hi, List.foldl_append]; rfl)
  have HFull := Lib.hid (show ks.take ks.length = ks from List.take_length)
  clear hr h hs hs9
  generalize hnn : ks.length = n at *
  have Hnn := Lib.hid hnn
  clear hnn
  obtain ⟨gn, rv, md, z, ⟨f, L, G⟩⟩ := g
  generalize hgg : (⟨gn, rv, md, z, ⟨f, L, G⟩⟩ : Gn) = g at *
  have Hgg := Lib.hid hgg
  obtain ⟨W, hW, hbx, hbr, hbw⟩ := two_box w gn rv md z s L G 27
  have HX := Lib.hid hbx
  have HR := Lib.hid hbr
  have HB := Lib.hid hbw
  clear hbx hbr hbw
  generalize killG g ks = TG at *
  generalize vldG g = vb at *
  subst hgg
  dsimp only at *
  obtain ⟨M0, hM0⟩ : ∃ M0 : Mp, (⟨f, L, G⟩ : Mp) = M0 := ⟨_, rfl⟩
  rw [hM0] at HLn HSt
  have HS0 := Lib.hid (show (ks.take 0).foldl delM M0 = ⟨f, L, G⟩ from hM0.symm)
  have HPR0 := Lib.hid (show vb = true → md ≠ 1 → TG = (0, ⟨gn, rv, md, z, ks.foldl delM M0⟩) from fun e1 e2 => by rw [HG.out, if_pos e1, if_neg e2, hM0])
  clear hM0
  go_enter Tryz.func14, Tryz.ntmps14
  go_upto_region 1 with fail
  change Code.wp _ _ _ _ ((w.alloc (.cells (genC gn rv md z s L G) 27)).alloc (.cells (genC 0 0 0 0 Sl.nil 0 0) 27))
  rw [hW]
  clear hW
  have x0 := HX.out.n0
  have x1 := HX.out.n1
  have x2 := HX.out.n2
  have x3 := HX.out.n3
  have x4 := HX.out.c0
  have x5 := HX.out.c1
  have x6 := HX.out.c2
  have x7 := HX.out.c3
  have x8 := HX.out.c4
  have x9 := HX.out.c5
  have x10 := HX.out.c6
  have x11 := HX.out.c7
  have x12 := HX.out.cl
  have x13 := HX.out.cg
  go_wp2_with fail
  refine (HV.out _ HB.out).mono ?_
  rintro e w1 ⟨rfl, hb1⟩
  have HX1 := Lib.hid (HX.out.below hb1)
  have HR1 := Lib.hid (HR.out.below hb1)
  have HB1 := Lib.hid (bstep HB.out hb1)
  have hlr : w.heap.size + 1 < W.heap.size := HR.out.lt
  have hlr1 := HR1.out.lt
  clear x0 x1 x2 x3 x4 x5 x6 x7 x8 x9 x10 x11 x12 x13
  clear hb1 HX HR HB HV
  cases vb
  · have HPR := Lib.hid (show TG = (1, gn0) by rw [HG.out]; rfl)
    have r0 := HR1.out.n0
    have r1 := HR1.out.n1
    have r2 := HR1.out.n2
    have r3 := HR1.out.n3
    have r4 := HR1.out.c0
    have r5 := HR1.out.c1
    have r6 := HR1.out.c2
    have r7 := HR1.out.c3
    have r8 := HR1.out.c4
    have r9 := HR1.out.c5
    have r10 := HR1.out.c6
    have r11 := HR1.out.c7
    have r12 := HR1.out.cl
    have r13 := HR1.out.cg
    have rf := HR1.out.f
    go_wp2_with fail
    change bodyPost _ _ _ _ _ (pts w1 (w.heap.size + 1) (genL 0 0 0 0 Sl.nil 0 0))
    have hby := HR1.out.all 0 0 0 0 Sl.nil 0 0
    have HBz := Lib.hid (pts_below (B := w.heap.size) (b := (w.heap.size + 1)) (by omega) (genL 0 0 0 0 Sl.nil 0 0) HB1.out)
    have hrd := HR0.out (pts w1 (w.heap.size + 1) (genL 0 0 0 0 Sl.nil 0 0))
    rw [HPR.out]
    generalize pts w1 (w.heap.size + 1) (genL 0 0 0 0 Sl.nil 0 0) = V at *
    exact bodyPost_ret (v := .tuple #[genV 0 0 0 0 Sl.nil 0 0, .int .i64 1]) (by simp [results, Tryz.results14, go_sem, hby.n0, hby.n1, hby.n2, hby.n3, hby.c0, hby.c1, hby.c2, hby.c3, hby.c4, hby.c5, hby.c6, hby.c7, hby.cl, hby.cg]) rfl ⟨⟨_, rfl, hrd⟩, HBz.out⟩
  · by_cases hmd : md = 1
    · have HPR := Lib.hid (show TG = (12, gn0) by rw [HG.out, if_pos rfl, if_pos hmd])
      have e1 : (md == 1) = true := by rw [hmd]; rfl
      clear HG HPR0
      have x0 := HX1.out.n0
      have x1 := HX1.out.n1
      have x2 := HX1.out.n2
      have x3 := HX1.out.n3
      have x4 := HX1.out.c0
      have x5 := HX1.out.c1
      have x6 := HX1.out.c2
      have x7 := HX1.out.c3
      have x8 := HX1.out.c4
      have x9 := HX1.out.c5
      have x10 := HX1.out.c6
      have x11 := HX1.out.c7
      have x12 := HX1.out.cl
      have x13 := HX1.out.cg
      have r0 := HR1.out.n0
      have r1 := HR1.out.n1
      have r2 := HR1.out.n2
      have r3 := HR1.out.n3
      have r4 := HR1.out.c0
      have r5 := HR1.out.c1
      have r6 := HR1.out.c2
      have r7 := HR1.out.c3
      have r8 := HR1.out.c4
      have r9 := HR1.out.c5
      have r10 := HR1.out.c6
      have r11 := HR1.out.c7
      have r12 := HR1.out.cl
      have r13 := HR1.out.cg
      have rf := HR1.out.f
      go_wp2_with fail
      change bodyPost _ _ _ _ _ (pts w1 (w.heap.size + 1) (genL 0 0 0 0 Sl.nil 0 0))
      have hby := HR1.out.all 0 0 0 0 Sl.nil 0 0
      have HBz := Lib.hid (pts_below (B := w.heap.size) (b := (w.heap.size + 1)) (by omega) (genL 0 0 0 0 Sl.nil 0 0) HB1.out)
      have hrd := HR0.out (pts w1 (w.heap.size + 1) (genL 0 0 0 0 Sl.nil 0 0))
      rw [HPR.out]
      generalize pts w1 (w.heap.size + 1) (genL 0 0 0 0 Sl.nil 0 0) = V at *
      exact bodyPost_ret (v := .tuple #[genV 0 0 0 0 Sl.nil 0 0, .int .i64 12]) (by simp [results, Tryz.results14, go_sem, hby.n0, hby.n1, hby.n2, hby.n3, hby.c0, hby.c1, hby.c2, hby.c3, hby.c4, hby.c5, hby.c6, hby.c7, hby.cl, hby.cg]) rfl ⟨⟨_, rfl, hrd⟩, HBz.out⟩
    · have HPR := Lib.hid (HPR0.out rfl hmd)
      have e1 : (md == 1) = false := beq_eq_false_iff_ne.2 hmd
      clear HG HPR0
      have x0 := HX1.out.n0
      have x1 := HX1.out.n1
      have x2 := HX1.out.n2
      have x3 := HX1.out.n3
      have x4 := HX1.out.c0
      have x5 := HX1.out.c1
      have x6 := HX1.out.c2
      have x7 := HX1.out.c3
      have x8 := HX1.out.c4
      have x9 := HX1.out.c5
      have x10 := HX1.out.c6
      have x11 := HX1.out.c7
      have x12 := HX1.out.cl
      have x13 := HX1.out.cg
      have xf := HX1.out.f
      go_wp2_with fail
      go_loopw [6] (fun iv W => ∃ (i : Nat) (si : Sl), iv = .int .i64 (i : Int) ∧ i ≤ n ∧ Hid (BoxG W w.heap.size gn rv md z si ((ks.take i).foldl delM M0).live ((ks.take i).foldl delM M0).garb) ∧ Hid (OldOwn W (w.heap.size + 2) s f si ((ks.take i).foldl delM M0).st) ∧ Hid (BoxG W (w.heap.size + 1) 0 0 0 0 Sl.nil 0 0) ∧ Hid (Below w.heap.size w W)) (fun iv _ => n - (intOf iv).toNat)
      case atStart => exact ⟨0, s, rfl, Nat.zero_le _, by rw [HS0.out]; exact HX1, by rw [HS0.out]; exact Lib.hid (OldOwn.refl _ _ _ _), HR1, HB1⟩
      case round =>
        obtain ⟨i, si, rfl, hi, HXi, HOi, HRi, HBi⟩ := hrel
        clear HX1 HR1 HB1
        by_cases hlt : i < n
        · have i1 : (i : Int) < (n : Int) := by omega
          obtain ⟨b, off, rfl, c0⟩ := RdU.at (RdL.below HRn.out HBi.out) hlt
          have HLi := Lib.hid (HLn.out i)
          have HSi := Lib.hid (HSt.out i hlt)
          generalize uat ks i = key at c0 HSi
          generalize (ks.take i).foldl delM M0 = Mi at *
          obtain ⟨df, dL, dG⟩ := Mi
          dsimp only at *
          have x4 := HXi.out.c0
          have x5 := HXi.out.c1
          have x6 := HXi.out.c2
          have x7 := HXi.out.c3
          have x8 := HXi.out.c4
          have x9 := HXi.out.c5
          have x10 := HXi.out.c6
          have x11 := HXi.out.c7
          have x12 := HXi.out.cl
          have x13 := HXi.out.cg
          have HP := Lib.hid (rdel_del si ⟨df, dL, dG⟩ key wr.drew (HOi.out.rd HRm.out HBi.out |>.below (below_drew (Below.refl _ _))) HLi.out)
          go_upto_region 8 with fail
          refine wp_region_still_tail 6 (by kernel_rfl) (by kernel_rfl) ?_
          simp only [List.take_succ_cons, List.take_zero, List.drop_succ_cons, List.drop_zero]
          change wpStill Tryz.prog _ (World.drew _) _ _ _
          repeat still_step
          refine wpStill_nil ?_
          change wpList _ _ _ _ _ (World.drew _)
          generalize delM ⟨df, dL, dG⟩ key = M4 at *
          obtain ⟨bf, bL, bG⟩ := M4
          dsimp only at HP
          go_wp2_with fail
          refine (HP.out).mono ?_
          rintro e w5 ⟨⟨s4, rfl, ho⟩, hb5⟩
          replace hb5 := bstep (below_drew (Below.refl wr.heap.size wr)) hb5
          have hsz := hb5.size
          have hlr5 := HRi.out.lt
          have HO5 := Lib.hid (HOi.out.step ho hb5 (show w.heap.size + 2 ≤ wr.drew.heap.size from hlr5))
          have HX5 := Lib.hid (HXi.out.below hb5)
          have HR5 := Lib.hid (HRi.out.below hb5)
          have HB5 := Lib.hid (bstep HBi.out hb5)
          clear c0 HXi HRi HBi HOi ho hb5 HP x4 x5 x6 x7 x8 x9 x10 x11 x12 x13
          have x4 := HX5.out.c0
          have x5 := HX5.out.c1
          have x6 := HX5.out.c2
          have x7 := HX5.out.c3
          have x8 := HX5.out.c4
          have x9 := HX5.out.c5
          have x10 := HX5.out.c6
          have x11 := HX5.out.c7
          have x12 := HX5.out.cl
          have x13 := HX5.out.cg
          have xf := HX5.out.f
          go_upto_region 7 with fail
          change Code.wp _ _ _ _ (pts w5 w.heap.size (mapL s4 bL bG))
          have HX6 := Lib.hid (HX5.out.map s4 bL bG)
          have HR6 := Lib.hid (HR5.out.pts_ne (show w.heap.size + 1 ≠ w.heap.size by omega) (mapL s4 bL bG))
          have HB6 := Lib.hid (pts_below (B := w.heap.size) (b := w.heap.size) (Nat.le_refl _) (mapL s4 bL bG) HB5.out)
          have HO6 := Lib.hid (HO5.out.pts (show w.heap.size < w.heap.size + 2 by omega) (mapL s4 bL bG))
          generalize pts w5 w.heap.size (mapL s4 bL bG) = w6 at *
          clear HX5 HR5 HB5 HO5 xf x4 x5 x6 x7 x8 x9 x10 x11 x12 x13
          go_wp2_with fail
          go_roundw
          case rel =>
            refine ⟨i + 1, s4, by go_num, by omega, ?_, ?_, HR6, HB6⟩
            · rw [HSi.out]; exact HX6
            · rw [HSi.out]; exact HO6
          case measure => simp [intOf]; omega
        · have hin : i = n := by omega
          rw [hin, HFull.out] at HXi HOi
          rw [hin]
          clear hin hi
          generalize ks.foldl delM M0 = gA at *
          obtain ⟨af, aL, aG⟩ := gA
          dsimp only at HXi HOi
          have x0 := HXi.out.n0
          have x1 := HXi.out.n1
          have x2 := HXi.out.n2
          have x3 := HXi.out.n3
          have x4 := HXi.out.c0
          have x5 := HXi.out.c1
          have x6 := HXi.out.c2
          have x7 := HXi.out.c3
          have x8 := HXi.out.c4
          have x9 := HXi.out.c5
          have x10 := HXi.out.c6
          have x11 := HXi.out.c7
          have x12 := HXi.out.cl
          have x13 := HXi.out.cg
          have r0 := HRi.out.n0
          have r1 := HRi.out.n1
          have r2 := HRi.out.n2
          have r3 := HRi.out.n3
          have r4 := HRi.out.c0
          have r5 := HRi.out.c1
          have r6 := HRi.out.c2
          have r7 := HRi.out.c3
          have r8 := HRi.out.c4
          have r9 := HRi.out.c5
          have r10 := HRi.out.c6
          have r11 := HRi.out.c7
          have r12 := HRi.out.cl
          have r13 := HRi.out.cg
          have rf := HRi.out.f
          go_wp2_with fail
          change bodyPost _ _ _ _ _ (pts wr (w.heap.size + 1) (genL gn rv md z si aL aG))
          have hby := HRi.out.all gn rv md z si aL aG
          have HBz := Lib.hid (pts_below (B := w.heap.size) (b := (w.heap.size + 1)) (by omega) (genL gn rv md z si aL aG) HBi.out)
          have hrd := (HOi.out.pts (show w.heap.size + 1 < w.heap.size + 2 by omega) (genL gn rv md z si aL aG)).mono (show w.heap.size ≤ w.heap.size + 2 by omega)
          rw [HPR.out]
          generalize pts wr (w.heap.size + 1) (genL gn rv md z si aL aG) = V at *
          exact bodyPost_ret (v := .tuple #[genV gn rv md z si aL aG, .int .i64 0]) (by simp [results, Tryz.results14, go_sem, hby.n0, hby.n1, hby.n2, hby.n3, hby.c0, hby.c1, hby.c2, hby.c3, hby.c4, hby.c5, hby.c6, hby.c7, hby.cl, hby.cg]) rfl ⟨⟨_, rfl, hrd⟩, HBz.out⟩
set_option maxRecDepth 100000 in
set_option maxHeartbeats 16000000 in
theorem kill_any (g : Gn) (s : Sl) (v : Value) (ks : List Int) (w : World) (h : RdM w s g.m.st) (hs : ∀ i, i < 8 → (g.m.st i).length ≤ 9000) (hr : RdU w v ks) (hkl : ks.length ≤ 100000) :
    Calls Tryz.prog 13 #[genV g.num g.rev g.mode g.size s g.m.live g.m.garb, v] w (GOwn w (killG g ks)) := by
  obtain ⟨va, vc, rfl, hv1, hv2, _⟩ := hr.shape 0
  have hs9 : ∀ i, i < 8 → (g.m.st i).length ≤ 10000 := fun i hi => Nat.le_trans (hs i hi) (by omega)
  have HV := Lib.hid (fun W (hb : Below w.heap.size w W) => gvalid_any g s W (h.below hb) hs9)
  have HRn := Lib.hid hr
  have HRm := Lib.hid h
  have HR0 := Lib.hid (show ∀ W, OwnM W w.heap.size Sl.nil gn0.m.st from fun W => OwnM.nil W _)
  have HW := Lib.hid (fun W (hb : Below w.heap.size w W) => wasteM_any s g.m 0 W (h.below hb) hs9)
  rw [wasteM_zero] at HW
  have HG := Lib.hid (show killG g ks = if vldG g = true then (if g.mode = 1 then (12, gn0) else (0, { g with m := ks.foldl delM g.m })) else (1, gn0) from rfl)
  have HLn := Lib.hid (fun i => delAll_len (ks.take i) g.m hs)
  have HSt := Lib.hid (show ∀ i, i < ks.length → (ks.take (i + 1)).foldl delM g.m = delM ((ks.take i).foldl delM g.m) (uat ks i) from fun i hi => by rw [take_snocI hi, List.foldl_append]; rfl)
  have HFull := Lib.hid (show ks.take ks.length = ks from List.take_length)
  clear hr h hs hs9
  generalize hnn : ks.length = n at *
  have Hnn := Lib.hid hnn
  clear hnn
  obtain ⟨gn, rv, md, z, ⟨f, L, G⟩⟩ := g
  generalize hgg : (⟨gn, rv, md, z, ⟨f, L, G⟩⟩ : Gn) = g at *
  have Hgg := Lib.hid hgg
  obtain ⟨W, hW, hbx, hbr, hbw⟩ := two_box w gn rv md z s L G 43
  have HX := Lib.hid hbx
  have HR := Lib.hid hbr
  have HB := Lib.hid hbw
  clear hbx hbr hbw
  generalize killG g ks = TG at *
  generalize vldG g = vb at *
  subst hgg
  dsimp only at *
  obtain ⟨M0, hM0⟩ : ∃ M0 : Mp, (⟨f, L, G⟩ : Mp) = M0 := ⟨_, rfl⟩
  rw [hM0] at HLn HSt
  have HS0 := Lib.hid (show (ks.take 0).foldl delM M0 = ⟨f, L, G⟩ from hM0.symm)
  have HPR0 := Lib.hid (show vb = true → md ≠ 1 → TG = (0, ⟨gn, rv, md, z, ks.foldl delM M0⟩) from fun e1 e2 => by rw [HG.out, if_pos e1, if_neg e2, hM0])
  clear hM0
  go_enter Tryz.func13, Tryz.ntmps13
  go_upto_region 1 with fail
  change Code.wp _ _ _ _ ((w.alloc (.cells (genC gn rv md z s L G) 43)).alloc (.cells (genC 0 0 0 0 Sl.nil 0 0) 43))
  rw [hW]
  clear hW
  have x0 := HX.out.n0
  have x1 := HX.out.n1
  have x2 := HX.out.n2
  have x3 := HX.out.n3
  have x4 := HX.out.c0
  have x5 := HX.out.c1
  have x6 := HX.out.c2
  have x7 := HX.out.c3
  have x8 := HX.out.c4
  have x9 := HX.out.c5
  have x10 := HX.out.c6
  have x11 := HX.out.c7
  have x12 := HX.out.cl
  have x13 := HX.out.cg
  go_wp2_with fail
  refine (HV.out _ HB.out).mono ?_
  rintro e w1 ⟨rfl, hb1⟩
  have HX1 := Lib.hid (HX.out.below hb1)
  have HR1 := Lib.hid (HR.out.below hb1)
  have HB1 := Lib.hid (bstep HB.out hb1)
  have hlr : w.heap.size + 1 < W.heap.size := HR.out.lt
  have hlr1 := HR1.out.lt
  clear x0 x1 x2 x3 x4 x5 x6 x7 x8 x9 x10 x11 x12 x13
  clear hb1 HX HR HB HV
  cases vb
  · have HPR := Lib.hid (show TG = (1, gn0) by rw [HG.out]; rfl)
    have r0 := HR1.out.n0
    have r1 := HR1.out.n1
    have r2 := HR1.out.n2
    have r3 := HR1.out.n3
    have r4 := HR1.out.c0
    have r5 := HR1.out.c1
    have r6 := HR1.out.c2
    have r7 := HR1.out.c3
    have r8 := HR1.out.c4
    have r9 := HR1.out.c5
    have r10 := HR1.out.c6
    have r11 := HR1.out.c7
    have r12 := HR1.out.cl
    have r13 := HR1.out.cg
    have rf := HR1.out.f
    go_wp2_with fail
    change bodyPost _ _ _ _ _ (pts w1 (w.heap.size + 1) (genL 0 0 0 0 Sl.nil 0 0))
    have hby := HR1.out.all 0 0 0 0 Sl.nil 0 0
    have HBz := Lib.hid (pts_below (B := w.heap.size) (b := (w.heap.size + 1)) (by omega) (genL 0 0 0 0 Sl.nil 0 0) HB1.out)
    have hrd := HR0.out (pts w1 (w.heap.size + 1) (genL 0 0 0 0 Sl.nil 0 0))
    rw [HPR.out]
    generalize pts w1 (w.heap.size + 1) (genL 0 0 0 0 Sl.nil 0 0) = V at *
    exact bodyPost_ret (v := .tuple #[genV 0 0 0 0 Sl.nil 0 0, .int .i64 1]) (by simp [results, Tryz.results13, go_sem, hby.n0, hby.n1, hby.n2, hby.n3, hby.c0, hby.c1, hby.c2, hby.c3, hby.c4, hby.c5, hby.c6, hby.c7, hby.cl, hby.cg]) rfl ⟨⟨_, rfl, hrd⟩, HBz.out⟩
  · by_cases hmd : md = 1
    · have HPR := Lib.hid (show TG = (12, gn0) by rw [HG.out, if_pos rfl, if_pos hmd])
      have e1 : (md == 1) = true := by rw [hmd]; rfl
      clear HG HPR0
      have x0 := HX1.out.n0
      have x1 := HX1.out.n1
      have x2 := HX1.out.n2
      have x3 := HX1.out.n3
      have x4 := HX1.out.c0
      have x5 := HX1.out.c1
      have x6 := HX1.out.c2
      have x7 := HX1.out.c3
      have x8 := HX1.out.c4
      have x9 := HX1.out.c5
      have x10 := HX1.out.c6
      have x11 := HX1.out.c7
      have x12 := HX1.out.cl
      have x13 := HX1.out.cg
      have r0 := HR1.out.n0
      have r1 := HR1.out.n1
      have r2 := HR1.out.n2
      have r3 := HR1.out.n3
      have r4 := HR1.out.c0
      have r5 := HR1.out.c1
      have r6 := HR1.out.c2
      have r7 := HR1.out.c3
      have r8 := HR1.out.c4
      have r9 := HR1.out.c5
      have r10 := HR1.out.c6
      have r11 := HR1.out.c7
      have r12 := HR1.out.cl
      have r13 := HR1.out.cg
      have rf := HR1.out.f
      go_wp2_with fail
      change bodyPost _ _ _ _ _ (pts w1 (w.heap.size + 1) (genL 0 0 0 0 Sl.nil 0 0))
      have hby := HR1.out.all 0 0 0 0 Sl.nil 0 0
      have HBz := Lib.hid (pts_below (B := w.heap.size) (b := (w.heap.size + 1)) (by omega) (genL 0 0 0 0 Sl.nil 0 0) HB1.out)
      have hrd := HR0.out (pts w1 (w.heap.size + 1) (genL 0 0 0 0 Sl.nil 0 0))
      rw [HPR.out]
      generalize pts w1 (w.heap.size + 1) (genL 0 0 0 0 Sl.nil 0 0) = V at *
      exact bodyPost_ret (v := .tuple #[genV 0 0 0 0 Sl.nil 0 0, .int .i64 12]) (by simp [results, Tryz.results13, go_sem, hby.n0, hby.n1, hby.n2, hby.n3, hby.c0, hby.c1, hby.c2, hby.c3, hby.c4, hby.c5, hby.c6, hby.c7, hby.cl, hby.cg]) rfl ⟨⟨_, rfl, hrd⟩, HBz.out⟩
    · have HPR := Lib.hid (HPR0.out rfl hmd)
      have e1 : (md == 1) = false := beq_eq_false_iff_ne.2 hmd
      clear HG HPR0
      have x0 := HX1.out.n0
      have x1 := HX1.out.n1
      have x2 := HX1.out.n2
      have x3 := HX1.out.n3
      have x4 := HX1.out.c0
      have x5 := HX1.out.c1
      have x6 := HX1.out.c2
      have x7 := HX1.out.c3
      have x8 := HX1.out.c4
      have x9 := HX1.out.c5
      have x10 := HX1.out.c6
      have x11 := HX1.out.c7
      have x12 := HX1.out.cl
      have x13 := HX1.out.cg
      have xf := HX1.out.f
      go_wp2_with fail
      refine (HW.out _ HB1.out).mono ?_
      rintro e w3 ⟨⟨s3, rfl, ho3⟩, hb3⟩
      have HX3 := Lib.hid (HX1.out.below hb3)
      have HR3 := Lib.hid (HR1.out.below hb3)
      have HB3 := Lib.hid (bstep HB1.out hb3)
      have HO3 := Lib.hid (ho3.mono (show w.heap.size + 2 ≤ w1.heap.size by omega))
      clear x0 x1 x2 x3 x4 x5 x6 x7 x8 x9 x10 x11 x12 x13 xf
      clear hb3 ho3 HX1 HR1 HB1 HW
      have x0 := HX3.out.n0
      have x1 := HX3.out.n1
      have x2 := HX3.out.n2
      have x3 := HX3.out.n3
      have x4 := HX3.out.c0
      have x5 := HX3.out.c1
      have x6 := HX3.out.c2
      have x7 := HX3.out.c3
      have x8 := HX3.out.c4
      have x9 := HX3.out.c5
      have x10 := HX3.out.c6
      have x11 := HX3.out.c7
      have x12 := HX3.out.cl
      have x13 := HX3.out.cg
      have xf := HX3.out.f
      go_upto_region 6 with fail
      change Code.wp _ _ _ _ (pts w3 w.heap.size (mapL s3 L G))
      have HX4 := Lib.hid (HX3.out.map s3 L G)
      have HR4 := Lib.hid (HR3.out.pts_ne (show w.heap.size + 1 ≠ w.heap.size by omega) (mapL s3 L G))
      have HB4 := Lib.hid (pts_below (B := w.heap.size) (b := w.heap.size) (Nat.le_refl _) (mapL s3 L G) HB3.out)
      have HO4 := Lib.hid (HO3.out.pts (show w.heap.size < w.heap.size + 2 by omega) (mapL s3 L G))
      generalize pts w3 w.heap.size (mapL s3 L G) = w4 at *
      clear x0 x1 x2 x3 x4 x5 x6 x7 x8 x9 x10 x11 x12 x13 xf
      clear HX3 HR3 HB3 HO3
      go_wp2_with fail
      go_loopw [24] (fun iv W => ∃ (i : Nat) (si : Sl), iv = .int .i64 (i : Int) ∧ i ≤ n ∧ Hid (BoxG W w.heap.size gn rv md z si ((ks.take i).foldl delM M0).live ((ks.take i).foldl delM M0).garb) ∧ Hid (OwnM W (w.heap.size + 2) si ((ks.take i).foldl delM M0).st) ∧ Hid (BoxG W (w.heap.size + 1) 0 0 0 0 Sl.nil 0 0) ∧ Hid (Below w.heap.size w W)) (fun iv _ => n - (intOf iv).toNat)
      case atStart => exact ⟨0, s3, rfl, Nat.zero_le _, by rw [HS0.out]; exact HX4, by rw [HS0.out]; exact HO4, HR4, HB4⟩
      case round =>
        obtain ⟨i, si, rfl, hi, HXi, HOi, HRi, HBi⟩ := hrel
        clear HX4 HR4 HB4
        by_cases hlt : i < n
        · have i1 : (i : Int) < (n : Int) := by omega
          obtain ⟨b, off, rfl, c0⟩ := RdU.at (RdL.below HRn.out HBi.out) hlt
          have HLi := Lib.hid (HLn.out i)
          have HSi := Lib.hid (HSt.out i hlt)
          generalize uat ks i = key at c0 HSi
          generalize (ks.take i).foldl delM M0 = Mi at *
          obtain ⟨df, dL, dG⟩ := Mi
          dsimp only at *
          have x4 := HXi.out.c0
          have x5 := HXi.out.c1
          have x6 := HXi.out.c2
          have x7 := HXi.out.c3
          have x8 := HXi.out.c4
          have x9 := HXi.out.c5
          have x10 := HXi.out.c6
          have x11 := HXi.out.c7
          have x12 := HXi.out.cl
          have x13 := HXi.out.cg
          have HP := Lib.hid (deleteM_any si ⟨df, dL, dG⟩ key wr HOi.out.rd (fun j hj => Nat.le_trans (HLi.out j hj) (by omega)))
          generalize delM ⟨df, dL, dG⟩ key = M4 at *
          obtain ⟨bf, bL, bG⟩ := M4
          dsimp only at HP
          go_wp2_with fail
          refine (HP.out).mono ?_
          rintro e w5 ⟨⟨s4, rfl, ho⟩, hb5⟩
          have hlr5 := HRi.out.lt
          have HO5 := Lib.hid (ho.mono (show w.heap.size + 2 ≤ wr.heap.size by omega))
          have HX5 := Lib.hid (HXi.out.below hb5)
          have HR5 := Lib.hid (HRi.out.below hb5)
          have HB5 := Lib.hid (bstep HBi.out hb5)
          clear c0 HXi HRi HBi HOi ho hb5 HP x4 x5 x6 x7 x8 x9 x10 x11 x12 x13
          have x4 := HX5.out.c0
          have x5 := HX5.out.c1
          have x6 := HX5.out.c2
          have x7 := HX5.out.c3
          have x8 := HX5.out.c4
          have x9 := HX5.out.c5
          have x10 := HX5.out.c6
          have x11 := HX5.out.c7
          have x12 := HX5.out.cl
          have x13 := HX5.out.cg
          have xf := HX5.out.f
          go_upto_region 10 with fail
          change Code.wp _ _ _ _ (pts w5 w.heap.size (mapL s4 bL bG))
          have HX6 := Lib.hid (HX5.out.map s4 bL bG)
          have HR6 := Lib.hid (HR5.out.pts_ne (show w.heap.size + 1 ≠ w.heap.size by omega) (mapL s4 bL bG))
          have HB6 := Lib.hid (pts_below (B := w.heap.size) (b := w.heap.size) (Nat.le_refl _) (mapL s4 bL bG) HB5.out)
          have HO6 := Lib.hid (HO5.out.pts (show w.heap.size < w.heap.size + 2 by omega) (mapL s4 bL bG))
          generalize pts w5 w.heap.size (mapL s4 bL bG) = w6 at *
          clear HX5 HR5 HB5 HO5 xf x4 x5 x6 x7 x8 x9 x10 x11 x12 x13
          go_wp2_with fail
          go_roundw
          case rel =>
            refine ⟨i + 1, s4, by go_num, by omega, ?_, ?_, HR6, HB6⟩
            · rw [HSi.out]; exact HX6
            · rw [HSi.out]; exact HO6
          case measure => simp [intOf]; omega
        · have hin : i = n := by omega
          rw [hin, HFull.out] at HXi HOi
          rw [hin]
          clear hin hi
          generalize ks.foldl delM M0 = gA at *
          obtain ⟨af, aL, aG⟩ := gA
          dsimp only at HXi HOi
          have x0 := HXi.out.n0
          have x1 := HXi.out.n1
          have x2 := HXi.out.n2
          have x3 := HXi.out.n3
          have x4 := HXi.out.c0
          have x5 := HXi.out.c1
          have x6 := HXi.out.c2
          have x7 := HXi.out.c3
          have x8 := HXi.out.c4
          have x9 := HXi.out.c5
          have x10 := HXi.out.c6
          have x11 := HXi.out.c7
          have x12 := HXi.out.cl
          have x13 := HXi.out.cg
          have r0 := HRi.out.n0
          have r1 := HRi.out.n1
          have r2 := HRi.out.n2
          have r3 := HRi.out.n3
          have r4 := HRi.out.c0
          have r5 := HRi.out.c1
          have r6 := HRi.out.c2
          have r7 := HRi.out.c3
          have r8 := HRi.out.c4
          have r9 := HRi.out.c5
          have r10 := HRi.out.c6
          have r11 := HRi.out.c7
          have r12 := HRi.out.cl
          have r13 := HRi.out.cg
          have rf := HRi.out.f
          go_wp2_with fail
          change bodyPost _ _ _ _ _ (pts wr (w.heap.size + 1) (genL gn rv md z si aL aG))
          have hby := HRi.out.all gn rv md z si aL aG
          have HBz := Lib.hid (pts_below (B := w.heap.size) (b := (w.heap.size + 1)) (by omega) (genL gn rv md z si aL aG) HBi.out)
          have hrd := (HOi.out.pts (show w.heap.size + 1 < w.heap.size + 2 by omega) (genL gn rv md z si aL aG)).mono (show w.heap.size ≤ w.heap.size + 2 by omega)
          rw [HPR.out]
          generalize pts wr (w.heap.size + 1) (genL gn rv md z si aL aG) = V at *
          exact bodyPost_ret (v := .tuple #[genV gn rv md z si aL aG, .int .i64 0]) (by simp [results, Tryz.results13, go_sem, hby.n0, hby.n1, hby.n2, hby.n3, hby.c0, hby.c1, hby.c2, hby.c3, hby.c4, hby.c5, hby.c6, hby.c7, hby.cl, hby.cg]) rfl ⟨⟨_, rfl, hrd⟩, HBz.out⟩
end Go.Proofs.YtenkeodfijladaaGreatDoor
