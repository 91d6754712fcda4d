/- Several texts in one, each over the last: generation.turn, Freeze, Seal: the walks. Printed by genHt.py. The law's awake: the chapter's examples. Printed by genHa.py. -/
import Derived.Test.YtenkeodfijladaaGreatDoorGE
import Derived.Test.YtenkeodfijladaaGreatDoorGB
import Derived.Test.YtenkeodfijladaaGreatDoorGI
namespace Go.Proofs.YtenkeodfijladaaGreatDoor
open Go.RowKit

/-- The two boxes of a change: the generation that came in, and the result, which is the zero. -/
theorem two_box (w : World) (n r md z : Int) (s : Sl) (l g : Int) (t : TypeId) : ∃ W, (w.alloc (.cells (genC n r md z s l g) t)).alloc (.cells (genC 0 0 0 0 Sl.nil 0 0) t) = W ∧ BoxG W w.heap.size n r md z s l g ∧ BoxG W (w.heap.size + 1) 0 0 0 0 Sl.nil 0 0 ∧ Below w.heap.size w W := by
  refine ⟨_, rfl, (BoxG.new w n r md z s l g t).below (below_gen _ 0 0 0 0 Sl.nil 0 0 t), ?_, bstep (below_gen w n r md z s l g t) (below_gen _ 0 0 0 0 Sl.nil 0 0 t)⟩
  have := BoxG.new (w.alloc (.cells (genC n r md z s l g) t)) 0 0 0 0 Sl.nil 0 0 t
  rwa [World.size_alloc] at this
set_option maxRecDepth 100000 in
set_option maxHeartbeats 4000000 in
theorem turn_any (g : Gn) (s : Sl) (frm : Int) (w : World) (h : RdM w s g.m.st) (hs : ∀ i, i < 8 → (g.m.st i).length ≤ 10000) :
    Calls Tryz.prog 40 #[genV g.num g.rev g.mode g.size s g.m.live g.m.garb, .int .i64 frm] w (GOwn w (turnG g frm)) := by
  have HV := Lib.hid (fun W (hb : Below w.heap.size w W) => gvalid_any g s W (h.below hb) hs)
  have HW := Lib.hid (fun W (hb : Below w.heap.size w W) => wasteM_any s g.m 0 W (h.below hb) hs)
  rw [wasteM_zero] at HW
  have HR0 := Lib.hid (show ∀ W, OwnM W w.heap.size Sl.nil gn0.m.st from fun W => OwnM.nil W _)
  have HG := Lib.hid (show turnG g frm = if vldG g = true then (if g.mode = frm then (0, { g with mode := frm + 1 }) else (12, gn0)) else (1, gn0) from rfl)
  have Hmd := Lib.hid (show vldG g = true → 1 ≤ g.mode ∧ g.mode ≤ 3 from fun hv => ((vldG_iff g).1 hv).mode)
  generalize vldG g = vb at *
  obtain ⟨n, r, md, z, ⟨f, L, G⟩⟩ := g
  dsimp only at *
  generalize turnG ⟨n, r, md, z, ⟨f, L, G⟩⟩ frm = TG at *
  obtain ⟨W, hW, hbx, hbr, hbw⟩ := two_box w n r md z s L G 43
  have HX := Lib.hid hbx
  have HR := Lib.hid hbr
  have HB := Lib.hid hbw
  clear hbx hbr hbw h hs
  go_enter Tryz.func40, Tryz.ntmps40
  go_upto_region 1 with fail
  change Code.wp _ _ _ _ ((w.alloc (.cells (genC n r md z s L G) 43)).alloc (.cells (genC 0 0 0 0 Sl.nil 0 0) 43))
  rw [hW]
  clear hW
  have x0 := HX.out.n0
  have x1 := HX.out.n1
  have x2 := HX.out.n2
  have x3 := HX.out.n3
  have x4 := HX.out.c0
  have x5 := HX.out.c1
  have x6 := HX.out.c2
  have x7 := HX.out.c3
  have x8 := HX.out.c4
  have x9 := HX.out.c5
  have x10 := HX.out.c6
  have x11 := HX.out.c7
  have x12 := HX.out.cl
  have x13 := HX.out.cg
  go_wp2_with fail
  refine (HV.out _ HB.out).mono ?_
  rintro e w1 ⟨rfl, hb1⟩
  have HX1 := Lib.hid (HX.out.below hb1)
  have HR1 := Lib.hid (HR.out.below hb1)
  have HB1 := Lib.hid (bstep HB.out hb1)
  clear x0 x1 x2 x3 x4 x5 x6 x7 x8 x9 x10 x11 x12 x13
  clear hb1 HX HR HB HV
  have hlr := HR1.out.lt
  cases vb
  · have HPR := Lib.hid (show TG = (1, gn0) from HG.out)
    have r0 := HR1.out.n0
    have r1 := HR1.out.n1
    have r2 := HR1.out.n2
    have r3 := HR1.out.n3
    have r4 := HR1.out.c0
    have r5 := HR1.out.c1
    have r6 := HR1.out.c2
    have r7 := HR1.out.c3
    have r8 := HR1.out.c4
    have r9 := HR1.out.c5
    have r10 := HR1.out.c6
    have r11 := HR1.out.c7
    have r12 := HR1.out.cl
    have r13 := HR1.out.cg
    have rf := HR1.out.f
    go_wp2_with fail
    change bodyPost _ _ _ _ _ (pts w1 (w.heap.size + 1) (genL 0 0 0 0 Sl.nil 0 0))
    have hby := HR1.out.all 0 0 0 0 Sl.nil 0 0
    have HBz := Lib.hid (pts_below (B := w.heap.size) (b := (w.heap.size + 1)) (by omega) (genL 0 0 0 0 Sl.nil 0 0) HB1.out)
    have hrd := HR0.out (pts w1 (w.heap.size + 1) (genL 0 0 0 0 Sl.nil 0 0))
    rw [HPR.out]
    generalize pts w1 (w.heap.size + 1) (genL 0 0 0 0 Sl.nil 0 0) = V at *
    exact bodyPost_ret (v := .tuple #[genV 0 0 0 0 Sl.nil 0 0, .int .i64 1]) (by simp [results, Tryz.results40, go_sem, hby.n0, hby.n1, hby.n2, hby.n3, hby.c0, hby.c1, hby.c2, hby.c3, hby.c4, hby.c5, hby.c6, hby.c7, hby.cl, hby.cg]) rfl ⟨⟨_, rfl, hrd⟩, HBz.out⟩
  · have hmd2 := Hmd.out rfl
    by_cases hm : md = frm
    · subst hm
      have HPR := Lib.hid (show TG = (0, ⟨n, r, md + 1, z, ⟨f, L, G⟩⟩) by rw [HG.out, if_pos rfl, if_pos rfl])
      clear HG Hmd
      have x0 := HX1.out.n0
      have x1 := HX1.out.n1
      have x2 := HX1.out.n2
      have x3 := HX1.out.n3
      have x4 := HX1.out.c0
      have x5 := HX1.out.c1
      have x6 := HX1.out.c2
      have x7 := HX1.out.c3
      have x8 := HX1.out.c4
      have x9 := HX1.out.c5
      have x10 := HX1.out.c6
      have x11 := HX1.out.c7
      have x12 := HX1.out.cl
      have x13 := HX1.out.cg
      have xf := HX1.out.f
      go_upto_region 6 with fail
      change Code.wp _ _ _ _ (pts w1 w.heap.size [(2, .int .i64 (md + 1))])
      have HX2 := Lib.hid (HX1.out.num2 (md + 1))
      have HR2 := Lib.hid (HR1.out.pts_ne (show w.heap.size + 1 ≠ w.heap.size by omega) [(2, .int .i64 (md + 1))])
      have HB2 := Lib.hid (pts_below (B := w.heap.size) (b := w.heap.size) (Nat.le_refl _) [(2, .int .i64 (md + 1))] HB1.out)
      have hz2 : (pts w1 w.heap.size [(2, .int .i64 (md + 1))]).heap.size = w1.heap.size := pts_size _ _
      generalize pts w1 w.heap.size [(2, .int .i64 (md + 1))] = w2 at *
      clear x0 x1 x2 x3 x4 x5 x6 x7 x8 x9 x10 x11 x12 x13 xf
      clear HX1 HR1 HB1
      have x0 := HX2.out.n0
      have x1 := HX2.out.n1
      have x2 := HX2.out.n2
      have x3 := HX2.out.n3
      have x4 := HX2.out.c0
      have x5 := HX2.out.c1
      have x6 := HX2.out.c2
      have x7 := HX2.out.c3
      have x8 := HX2.out.c4
      have x9 := HX2.out.c5
      have x10 := HX2.out.c6
      have x11 := HX2.out.c7
      have x12 := HX2.out.cl
      have x13 := HX2.out.cg
      have xf := HX2.out.f
      go_wp2_with fail
      refine (HW.out _ HB2.out).mono ?_
      rintro e w3 ⟨⟨s3, rfl, ho3⟩, hb3⟩
      have HX3 := Lib.hid (HX2.out.below hb3)
      have HR3 := Lib.hid (HR2.out.below hb3)
      have HB3 := Lib.hid (bstep HB2.out hb3)
      have HO3 := Lib.hid (ho3.mono (show w.heap.size + 2 ≤ w2.heap.size by omega))
      clear x0 x1 x2 x3 x4 x5 x6 x7 x8 x9 x10 x11 x12 x13 xf
      clear hb3 ho3 HX2 HR2 HB2 HW hz2
      have x0 := HX3.out.n0
      have x1 := HX3.out.n1
      have x2 := HX3.out.n2
      have x3 := HX3.out.n3
      have x4 := HX3.out.c0
      have x5 := HX3.out.c1
      have x6 := HX3.out.c2
      have x7 := HX3.out.c3
      have x8 := HX3.out.c4
      have x9 := HX3.out.c5
      have x10 := HX3.out.c6
      have x11 := HX3.out.c7
      have x12 := HX3.out.cl
      have x13 := HX3.out.cg
      have xf := HX3.out.f
      go_upto_region 7 with fail
      change Code.wp _ _ _ _ (pts w3 w.heap.size (mapL s3 L G))
      have HX4 := Lib.hid (HX3.out.map s3 L G)
      have HR4 := Lib.hid (HR3.out.pts_ne (show w.heap.size + 1 ≠ w.heap.size by omega) (mapL s3 L G))
      have HB4 := Lib.hid (pts_below (B := w.heap.size) (b := w.heap.size) (Nat.le_refl _) (mapL s3 L G) HB3.out)
      have HO4 := Lib.hid (HO3.out.pts (show w.heap.size < w.heap.size + 2 by omega) (mapL s3 L G))
      generalize pts w3 w.heap.size (mapL s3 L G) = w4 at *
      clear x0 x1 x2 x3 x4 x5 x6 x7 x8 x9 x10 x11 x12 x13 xf
      clear HX3 HR3 HB3 HO3
      have x0 := HX4.out.n0
      have x1 := HX4.out.n1
      have x2 := HX4.out.n2
      have x3 := HX4.out.n3
      have x4 := HX4.out.c0
      have x5 := HX4.out.c1
      have x6 := HX4.out.c2
      have x7 := HX4.out.c3
      have x8 := HX4.out.c4
      have x9 := HX4.out.c5
      have x10 := HX4.out.c6
      have x11 := HX4.out.c7
      have x12 := HX4.out.cl
      have x13 := HX4.out.cg
      have r0 := HR4.out.n0
      have r1 := HR4.out.n1
      have r2 := HR4.out.n2
      have r3 := HR4.out.n3
      have r4 := HR4.out.c0
      have r5 := HR4.out.c1
      have r6 := HR4.out.c2
      have r7 := HR4.out.c3
      have r8 := HR4.out.c4
      have r9 := HR4.out.c5
      have r10 := HR4.out.c6
      have r11 := HR4.out.c7
      have r12 := HR4.out.cl
      have r13 := HR4.out.cg
      have rf := HR4.out.f
      go_wp2_with fail
      change bodyPost _ _ _ _ _ (pts w4 (w.heap.size + 1) (genL n r (md + 1) z s3 L G))
      have hby := HR4.out.all n r (md + 1) z s3 L G
      have HBz := Lib.hid (pts_below (B := w.heap.size) (b := (w.heap.size + 1)) (by omega) (genL n r (md + 1) z s3 L G) HB4.out)
      have hrd := (HO4.out.pts (show w.heap.size + 1 < w.heap.size + 2 by omega) (genL n r (md + 1) z s3 L G)).mono (show w.heap.size ≤ w.heap.size + 2 by omega)
      rw [HPR.out]
      generalize pts w4 (w.heap.size + 1) (genL n r (md + 1) z s3 L G) = V at *
      exact bodyPost_ret (v := .tuple #[genV n r (md + 1) z s3 L G, .int .i64 0]) (by simp [results, Tryz.results40, go_sem, hby.n0, hby.n1, hby.n2, hby.n3, hby.c0, hby.c1, hby.c2, hby.c3, hby.c4, hby.c5, hby.c6, hby.c7, hby.cl, hby.cg]) rfl ⟨⟨_, rfl, hrd⟩, HBz.out⟩
    · have HPR := Lib.hid (show TG = (12, gn0) by rw [HG.out, if_pos rfl, if_neg hm])
      have e0 : (md == frm) = false := beq_eq_false_iff_ne.2 hm
      clear HG Hmd
      have x0 := HX1.out.n0
      have x1 := HX1.out.n1
      have x2 := HX1.out.n2
      have x3 := HX1.out.n3
      have x4 := HX1.out.c0
      have x5 := HX1.out.c1
      have x6 := HX1.out.c2
      have x7 := HX1.out.c3
      have x8 := HX1.out.c4
      have x9 := HX1.out.c5
      have x10 := HX1.out.c6
      have x11 := HX1.out.c7
      have x12 := HX1.out.cl
      have x13 := HX1.out.cg
      have r0 := HR1.out.n0
      have r1 := HR1.out.n1
      have r2 := HR1.out.n2
      have r3 := HR1.out.n3
      have r4 := HR1.out.c0
      have r5 := HR1.out.c1
      have r6 := HR1.out.c2
      have r7 := HR1.out.c3
      have r8 := HR1.out.c4
      have r9 := HR1.out.c5
      have r10 := HR1.out.c6
      have r11 := HR1.out.c7
      have r12 := HR1.out.cl
      have r13 := HR1.out.cg
      have rf := HR1.out.f
      go_wp2_with fail
      change bodyPost _ _ _ _ _ (pts w1 (w.heap.size + 1) (genL 0 0 0 0 Sl.nil 0 0))
      have hby := HR1.out.all 0 0 0 0 Sl.nil 0 0
      have HBz := Lib.hid (pts_below (B := w.heap.size) (b := (w.heap.size + 1)) (by omega) (genL 0 0 0 0 Sl.nil 0 0) HB1.out)
      have hrd := HR0.out (pts w1 (w.heap.size + 1) (genL 0 0 0 0 Sl.nil 0 0))
      rw [HPR.out]
      generalize pts w1 (w.heap.size + 1) (genL 0 0 0 0 Sl.nil 0 0) = V at *
      exact bodyPost_ret (v := .tuple #[genV 0 0 0 0 Sl.nil 0 0, .int .i64 12]) (by simp [results, Tryz.results40, go_sem, hby.n0, hby.n1, hby.n2, hby.n3, hby.c0, hby.c1, hby.c2, hby.c3, hby.c4, hby.c5, hby.c6, hby.c7, hby.cl, hby.cg]) rfl ⟨⟨_, rfl, hrd⟩, HBz.out⟩
end Go.Proofs.YtenkeodfijladaaGreatDoor

namespace Go.Proofs.YtenkeodfijladaaGreatDoor
open Go.RowKit

set_option maxRecDepth 100000 in
set_option maxHeartbeats 4000000 in
theorem freeze_any (g : Gn) (s : Sl) (w : World) (h : RdM w s g.m.st) (hs : ∀ i, i < 8 → (g.m.st i).length ≤ 10000) :
    Calls Tryz.prog 15 #[genV g.num g.rev g.mode g.size s g.m.live g.m.garb] w (GOwn w (turnG g 1)) := by
  have HT := Lib.hid (fun W (hb : Below w.heap.size w W) => turn_any g s 1 W (h.below hb) hs)
  clear hs
  generalize turnG g 1 = TG at *
  obtain ⟨n, r, md, z, ⟨f, L, G⟩⟩ := g
  dsimp only at *
  obtain ⟨W, hW, hbx, hbr, hbw⟩ := two_box w n r md z s L G 43
  have HX := Lib.hid hbx
  have HR := Lib.hid hbr
  have HB := Lib.hid hbw
  clear hbx hbr hbw h
  go_enter Tryz.func15, Tryz.ntmps15
  go_upto_region 1 with fail
  change Code.wp _ _ _ _ ((w.alloc (.cells (genC n r md z s L G) 43)).alloc (.cells (genC 0 0 0 0 Sl.nil 0 0) 43))
  rw [hW]
  clear hW
  have x0 := HX.out.n0
  have x1 := HX.out.n1
  have x2 := HX.out.n2
  have x3 := HX.out.n3
  have x4 := HX.out.c0
  have x5 := HX.out.c1
  have x6 := HX.out.c2
  have x7 := HX.out.c3
  have x8 := HX.out.c4
  have x9 := HX.out.c5
  have x10 := HX.out.c6
  have x11 := HX.out.c7
  have x12 := HX.out.cl
  have x13 := HX.out.cg
  go_wp2_with fail
  refine (HT.out _ HB.out).mono ?_
  rintro e w1 ⟨⟨t, rfl, hr⟩, hb⟩
  have HRd := Lib.hid (hr.mono (show w.heap.size + 2 ≤ W.heap.size by have := HR.out.lt; omega))
  have HR1 := Lib.hid (HR.out.below hb)
  have HB1 := Lib.hid (bstep HB.out hb)
  have hlr := HR.out.lt
  clear x0 x1 x2 x3 x4 x5 x6 x7 x8 x9 x10 x11 x12 x13
  clear hr HX HT HR HB
  obtain ⟨er, ⟨n', r', md', z', ⟨f', L', G'⟩⟩⟩ := TG
  dsimp only at *
  have r0 := HR1.out.n0
  have r1 := HR1.out.n1
  have r2 := HR1.out.n2
  have r3 := HR1.out.n3
  have r4 := HR1.out.c0
  have r5 := HR1.out.c1
  have r6 := HR1.out.c2
  have r7 := HR1.out.c3
  have r8 := HR1.out.c4
  have r9 := HR1.out.c5
  have r10 := HR1.out.c6
  have r11 := HR1.out.c7
  have r12 := HR1.out.cl
  have r13 := HR1.out.cg
  have rf := HR1.out.f
  go_wp2_with fail
  change bodyPost _ _ _ _ _ (pts w1 (w.heap.size + 1) (genL n' r' md' z' t L' G'))
  have hby := HR1.out.all n' r' md' z' t L' G'
  have HBz := Lib.hid (pts_below (B := w.heap.size) (b := (w.heap.size + 1)) (by omega) (genL n' r' md' z' t L' G') HB1.out)
  have hrd := (HRd.out.pts (show w.heap.size + 1 < w.heap.size + 2 by omega) (genL n' r' md' z' t L' G')).mono (show w.heap.size ≤ w.heap.size + 2 by omega)
  generalize pts w1 (w.heap.size + 1) (genL n' r' md' z' t L' G') = V at *
  exact bodyPost_ret (v := .tuple #[genV n' r' md' z' t L' G', .int .i64 er]) (by simp [results, Tryz.results15, go_sem, hby.n0, hby.n1, hby.n2, hby.n3, hby.c0, hby.c1, hby.c2, hby.c3, hby.c4, hby.c5, hby.c6, hby.c7, hby.cl, hby.cg]) rfl ⟨⟨_, rfl, hrd⟩, HBz.out⟩
set_option maxRecDepth 100000 in
set_option maxHeartbeats 4000000 in
theorem seal_any (g : Gn) (s : Sl) (w : World) (h : RdM w s g.m.st) (hs : ∀ i, i < 8 → (g.m.st i).length ≤ 10000) :
    Calls Tryz.prog 17 #[genV g.num g.rev g.mode g.size s g.m.live g.m.garb] w (GOwn w (turnG g 2)) := by
  have HT := Lib.hid (fun W (hb : Below w.heap.size w W) => turn_any g s 2 W (h.below hb) hs)
  clear hs
  generalize turnG g 2 = TG at *
  obtain ⟨n, r, md, z, ⟨f, L, G⟩⟩ := g
  dsimp only at *
  obtain ⟨W, hW, hbx, hbr, hbw⟩ := two_box w n r md z s L G 43
  have HX := Lib.hid hbx
  have HR := Lib.hid hbr
  have HB := Lib.hid hbw
  clear hbx hbr hbw h
  go_enter Tryz.func17, Tryz.ntmps17
  go_upto_region 1 with fail
  change Code.wp _ _ _ _ ((w.alloc (.cells (genC n r md z s L G) 43)).alloc (.cells (genC 0 0 0 0 Sl.nil 0 0) 43))
  rw [hW]
  clear hW
  have x0 := HX.out.n0
  have x1 := HX.out.n1
  have x2 := HX.out.n2
  have x3 := HX.out.n3
  have x4 := HX.out.c0
  have x5 := HX.out.c1
  have x6 := HX.out.c2
  have x7 := HX.out.c3
  have x8 := HX.out.c4
  have x9 := HX.out.c5
  have x10 := HX.out.c6
  have x11 := HX.out.c7
  have x12 := HX.out.cl
  have x13 := HX.out.cg
  go_wp2_with fail
  refine (HT.out _ HB.out).mono ?_
  rintro e w1 ⟨⟨t, rfl, hr⟩, hb⟩
  have HRd := Lib.hid (hr.mono (show w.heap.size + 2 ≤ W.heap.size by have := HR.out.lt; omega))
  have HR1 := Lib.hid (HR.out.below hb)
  have HB1 := Lib.hid (bstep HB.out hb)
  have hlr := HR.out.lt
  clear x0 x1 x2 x3 x4 x5 x6 x7 x8 x9 x10 x11 x12 x13
  clear hr HX HT HR HB
  obtain ⟨er, ⟨n', r', md', z', ⟨f', L', G'⟩⟩⟩ := TG
  dsimp only at *
  have r0 := HR1.out.n0
  have r1 := HR1.out.n1
  have r2 := HR1.out.n2
  have r3 := HR1.out.n3
  have r4 := HR1.out.c0
  have r5 := HR1.out.c1
  have r6 := HR1.out.c2
  have r7 := HR1.out.c3
  have r8 := HR1.out.c4
  have r9 := HR1.out.c5
  have r10 := HR1.out.c6
  have r11 := HR1.out.c7
  have r12 := HR1.out.cl
  have r13 := HR1.out.cg
  have rf := HR1.out.f
  go_wp2_with fail
  change bodyPost _ _ _ _ _ (pts w1 (w.heap.size + 1) (genL n' r' md' z' t L' G'))
  have hby := HR1.out.all n' r' md' z' t L' G'
  have HBz := Lib.hid (pts_below (B := w.heap.size) (b := (w.heap.size + 1)) (by omega) (genL n' r' md' z' t L' G') HB1.out)
  have hrd := (HRd.out.pts (show w.heap.size + 1 < w.heap.size + 2 by omega) (genL n' r' md' z' t L' G')).mono (show w.heap.size ≤ w.heap.size + 2 by omega)
  generalize pts w1 (w.heap.size + 1) (genL n' r' md' z' t L' G') = V at *
  exact bodyPost_ret (v := .tuple #[genV n' r' md' z' t L' G', .int .i64 er]) (by simp [results, Tryz.results17, go_sem, hby.n0, hby.n1, hby.n2, hby.n3, hby.c0, hby.c1, hby.c2, hby.c3, hby.c4, hby.c5, hby.c6, hby.c7, hby.cl, hby.cg]) rfl ⟨⟨_, rfl, hrd⟩, HBz.out⟩
def nmEx : Nam := ⟨5, 1, 2, 3, true⟩
theorem nmEx_fmt : fmtN nmEx = [118, 46, 49, 46, 50, 46, 101, 99, 51, 46, 116, 109, 112] := by decide
theorem nmEx_ok : validN nmEx := by decide
set_option maxRecDepth 100000 in
theorem parseEx : parseP [118, 46, 48, 49, 46, 50, 46, 100, 97, 116] = (3, nam0) := by decide +kernel
/-- A fresh generation, sealed. -/
def sealed1 : Gn := ⟨1, 0, 3, 16, fun _ => [], 0, 0⟩
theorem sealed_vld : vldG sealed1 = true := by
  rw [vldG_iff]
  have h := (fresh_vld 1).2 (by decide)
  exact ⟨h.num, h.rev, by decide, h.size, h.m, h.ends, h.sum⟩
theorem sealed_frz : turnG sealed1 1 = (12, gn0) := by
  unfold turnG
  rw [if_pos sealed_vld, if_neg (by decide)]
set_option maxRecDepth 100000 in
set_option maxHeartbeats 4000000 in
theorem gawake_any (w : World) : Calls Tryz.prog 5 #[] w fun e w' => e = .returned (.bool true) ∧ Below w.heap.size w w' := by
  have HF := Lib.hid (fun W => format_any nmEx W)
  rw [nmEx_fmt, if_pos nmEx_ok] at HF
  have HPa := Lib.hid (fun W => parse_any [118, 46, 48, 49, 46, 50, 46, 100, 97, 116] W (by decide))
  rw [parseEx] at HPa
  have HFr := Lib.hid (fun W => fresh_any 1 (by decide) W)
  have HZ := Lib.hid (fun W => freeze_any sealed1 Sl.nil W (rdM_nil W) (fun _ _ => Nat.zero_le _))
  rw [sealed_frz] at HZ
  go_enter Tryz.func5, Tryz.ntmps5
  go_wp2_with fail
  refine (HF.out _).mono ?_
  rintro e w1 ⟨rfl, hb1⟩
  have HB1 := Lib.hid hb1
  clear hb1
  go_wp2_with fail
  refine (HPa.out _).mono ?_
  rintro e w2 ⟨rfl, hb2⟩
  have HB2 := Lib.hid (bstep HB1.out hb2)
  clear hb2 HB1
  go_upto_region 3 with fail
  change Code.wp _ _ _ _ (w2.alloc (.cells (namC nam0) 64))
  have HB3 := Lib.hid (bstep HB2.out (below_nam w2 nam0 64))
  generalize w2.alloc (.cells (namC nam0) 64) = w3 at *
  generalize w2.heap.size = b2 at *
  clear HB2
  clear w2
  go_wp2_with fail
  refine (HFr.out _).mono ?_
  rintro e w4 ⟨rfl, hb4⟩
  have HB4 := Lib.hid (bstep HB3.out hb4)
  clear hb4 HB3
  go_upto_region 4 with fail
  obtain ⟨w5, hW⟩ : ∃ W, w4.alloc (.cells (genC 1 0 1 16 Sl.nil 0 0) 43) = W := ⟨_, rfl⟩
  have HX := Lib.hid (show BoxG w5 w4.heap.size 1 0 1 16 Sl.nil 0 0 from hW ▸ BoxG.new w4 1 0 1 16 Sl.nil 0 0 43)
  have HB5 := Lib.hid (show Below w.heap.size w w5 from bstep HB4.out (hW ▸ below_gen w4 1 0 1 16 Sl.nil 0 0 43))
  have hlw : w.heap.size ≤ w4.heap.size := HB4.out.size
  change Code.wp _ _ _ _ (w4.alloc (.cells (genC 1 0 1 16 Sl.nil 0 0) 43))
  rw [hW]
  clear hW HB4
  generalize w4.heap.size = b4 at *
  clear w4
  have x0 := HX.out.n0
  have x1 := HX.out.n1
  have x2 := HX.out.n2
  have x3 := HX.out.n3
  have x4 := HX.out.c0
  have x5 := HX.out.c1
  have x6 := HX.out.c2
  have x7 := HX.out.c3
  have x8 := HX.out.c4
  have x9 := HX.out.c5
  have x10 := HX.out.c6
  have x11 := HX.out.c7
  have x12 := HX.out.cl
  have x13 := HX.out.cg
  have xf := HX.out.f
  go_upto_region 5 with fail
  change Code.wp _ _ _ _ (pts w5 b4 [(2, .int .i64 3)])
  have HX6 := Lib.hid (HX.out.num2 3)
  have HB6 := Lib.hid (pts_below (B := w.heap.size) (b := b4) hlw [(2, .int .i64 3)] HB5.out)
  generalize pts w5 b4 [(2, .int .i64 3)] = w6 at *
  clear x0 x1 x2 x3 x4 x5 x6 x7 x8 x9 x10 x11 x12 x13 xf
  clear HX HB5
  have x0 := HX6.out.n0
  have x1 := HX6.out.n1
  have x2 := HX6.out.n2
  have x3 := HX6.out.n3
  have x4 := HX6.out.c0
  have x5 := HX6.out.c1
  have x6 := HX6.out.c2
  have x7 := HX6.out.c3
  have x8 := HX6.out.c4
  have x9 := HX6.out.c5
  have x10 := HX6.out.c6
  have x11 := HX6.out.c7
  have x12 := HX6.out.cl
  have x13 := HX6.out.cg
  go_wp2_with fail
  refine (HZ.out _).mono ?_
  rintro e w7 ⟨⟨t, rfl, _⟩, hb7⟩
  have HB7 := Lib.hid (bstep HB6.out hb7)
  clear x0 x1 x2 x3 x4 x5 x6 x7 x8 x9 x10 x11 x12 x13
  clear HB6 hb7
  go_upto_region 6 with fail
  have HB8 := Lib.hid (bstep HB7.out (below_gen w7 0 0 0 0 t 0 0 43))
  change Code.wp _ _ _ _ (w7.alloc (.cells (genC 0 0 0 0 t 0 0) 43))
  generalize w7.alloc (.cells (genC 0 0 0 0 t 0 0) 43) = w8 at *
  clear HB7
  go_wp2_with fail
  go_ret
  exact ⟨rfl, HB8.out⟩
end Go.Proofs.YtenkeodfijladaaGreatDoor
