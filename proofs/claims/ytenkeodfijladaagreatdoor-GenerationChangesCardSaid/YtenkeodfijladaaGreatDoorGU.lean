/- Several texts in one, each over the last: Swap: the program's and the reference's: the walks. Printed by genHz.py. -/
import Derived.Test.YtenkeodfijladaaGreatDoorGM
import Derived.Test.YtenkeodfijladaaGreatDoorGJ
namespace Go.Proofs.YtenkeodfijladaaGreatDoor
open Go.RowKit

theorem BoxG.num1 {W : World} {b : Nat} {n r md z : Int} {s : Sl} {l g : Int} (h : BoxG W b n r md z s l g) (r' : Int) : BoxG (pts W b [(1, .int .i64 r')]) b n r' md z s l g := by
  have a3 := h.n1
  have ne : ∀ i, i ≠ 1 → ∀ u, W.cell? ⟨b, i, none⟩ = some u → (pts W b [(1, .int .i64 r')]).cell? ⟨b, i, none⟩ = some u := fun i hi u hu => (World.cell?_setCell_other (h := fun e => hi (by injection e with _ e _; exact e.symm)) ..).trans hu
  exact ⟨ne 0 (by decide) _ h.n0, by simp [pts, go_sem, a3], ne 2 (by decide) _ h.n2, ne 3 (by decide) _ h.n3, fun j hj => ne (4 + j) (by omega) _ (h.c j hj), ne 12 (by decide) _ h.cl, ne 13 (by decide) _ h.cg, fun i => (pts_frozen _ _ W).trans (h.f i)⟩
/-- The three boxes of a swap: the generation, the map, the result, which is the zero. -/
theorem three_box (w : World) (n r md z : Int) (s : Sl) (l g : Int) (s2 : Sl) (l2 g2 : Int) (t tm : TypeId) : ∃ W, ((w.alloc (.cells (genC n r md z s l g) t)).alloc (.cells (mapC s2 l2 g2) tm)).alloc (.cells (genC 0 0 0 0 Sl.nil 0 0) t) = W ∧ BoxG W w.heap.size n r md z s l g ∧ BoxM W (w.heap.size + 1) s2 l2 g2 ∧ BoxG W (w.heap.size + 2) 0 0 0 0 Sl.nil 0 0 ∧ Below w.heap.size w W := by
  have b1 := below_gen w n r md z s l g t
  have b2 := below_map (w.alloc (.cells (genC n r md z s l g) t)) s2 l2 g2 tm
  have b3 := below_gen ((w.alloc (.cells (genC n r md z s l g) t)).alloc (.cells (mapC s2 l2 g2) tm)) 0 0 0 0 Sl.nil 0 0 t
  refine ⟨_, rfl, ((BoxG.new w n r md z s l g t).below b2).below b3, ?_, ?_, bstep (bstep b1 b2) b3⟩
  · have := (BoxM.new (w.alloc (.cells (genC n r md z s l g) t)) s2 l2 g2 tm).below b3
    rwa [World.size_alloc] at this
  · have := BoxG.new ((w.alloc (.cells (genC n r md z s l g) t)).alloc (.cells (mapC s2 l2 g2) tm)) 0 0 0 0 Sl.nil 0 0 t
    rwa [World.size_alloc, World.size_alloc] at this
set_option maxRecDepth 100000 in
set_option maxHeartbeats 8000000 in
theorem swap_any (g : Gn) (s : Sl) (rv2 z2 : Int) (M : Mp) (s2 : Sl) (w : World) (h : RdM w s g.m.st) (hs : ∀ i, i < 8 → (g.m.st i).length ≤ 10000) (h2 : RdM w s2 M.st) (hs2 : ∀ i, i < 8 → (M.st i).length ≤ 10000) :
    Calls Tryz.prog 19 #[genV g.num g.rev g.mode g.size s g.m.live g.m.garb, .int .i64 rv2, .int .i64 z2, mapV s2 M.live M.garb] w (GOwn w (swapG g rv2 z2 M)) := by
  have HV := Lib.hid (fun W (hb : Below w.heap.size w W) => gvalid_any g s W (h.below hb) hs)
  have HV2 := Lib.hid (fun s2 W (h2 : RdM W s2 M.st) => gvalid_any ⟨g.num, rv2, g.mode, z2, M⟩ s2 W h2 hs2)
  have HR0 := Lib.hid (show ∀ W, OwnM W w.heap.size Sl.nil gn0.m.st from fun W => OwnM.nil W _)
  have HW := Lib.hid (fun W (hb : Below w.heap.size w W) => wasteM_any s2 M 0 W (h2.below hb) hs2)
  rw [wasteM_zero] at HW
  have HG := Lib.hid (show swapG g rv2 z2 M = if vldG g = true then (if g.mode = 1 ∧ rv2 = g.rev + 1 then (if vldG ⟨g.num, rv2, g.mode, z2, M⟩ = true then (0, ⟨g.num, rv2, g.mode, z2, M⟩) else (1, gn0)) else (12, gn0)) else (1, gn0) from rfl)
  have Hrv := Lib.hid (show vldG g = true → 0 ≤ g.rev ∧ g.rev ≤ 4294967295 from fun hv => ((vldG_iff g).1 hv).rev)
  generalize vldG g = vb at *
  obtain ⟨n, r, md, z, ⟨f, L, G⟩⟩ := g
  obtain ⟨f2, L2, G2⟩ := M
  dsimp only at *
  generalize vldG ⟨n, rv2, md, z2, ⟨f2, L2, G2⟩⟩ = vc at *
  generalize swapG ⟨n, r, md, z, ⟨f, L, G⟩⟩ rv2 z2 ⟨f2, L2, G2⟩ = TG at *
  obtain ⟨W, hW, hbx, hbm, hbr, hbw⟩ := three_box w n r md z s L G s2 L2 G2 43 41
  have HX := Lib.hid hbx
  have HM := Lib.hid hbm
  have HR := Lib.hid hbr
  have HB := Lib.hid hbw
  clear hbx hbm hbr hbw h hs h2 hs2
  go_enter Tryz.func19, Tryz.ntmps19
  go_upto_region 1 with fail
  change Code.wp _ _ _ _ (((w.alloc (.cells (genC n r md z s L G) 43)).alloc (.cells (mapC s2 L2 G2) 41)).alloc (.cells (genC 0 0 0 0 Sl.nil 0 0) 43))
  rw [hW]
  clear hW
  have x0 := HX.out.n0
  have x1 := HX.out.n1
  have x2 := HX.out.n2
  have x3 := HX.out.n3
  have x4 := HX.out.c0
  have x5 := HX.out.c1
  have x6 := HX.out.c2
  have x7 := HX.out.c3
  have x8 := HX.out.c4
  have x9 := HX.out.c5
  have x10 := HX.out.c6
  have x11 := HX.out.c7
  have x12 := HX.out.cl
  have x13 := HX.out.cg
  go_wp2_with fail
  refine (HV.out _ HB.out).mono ?_
  rintro e w1 ⟨rfl, hb1⟩
  have HX1 := Lib.hid (HX.out.below hb1)
  have HM1 := Lib.hid (HM.out.below hb1)
  have HR1 := Lib.hid (HR.out.below hb1)
  have HB1 := Lib.hid (bstep HB.out hb1)
  clear x0 x1 x2 x3 x4 x5 x6 x7 x8 x9 x10 x11 x12 x13
  clear hb1 HX HM HR HB HV
  have hlr := HR1.out.lt
  cases vb
  · have HPR := Lib.hid (show TG = (1, gn0) from HG.out)
    have r0 := HR1.out.n0
    have r1 := HR1.out.n1
    have r2 := HR1.out.n2
    have r3 := HR1.out.n3
    have r4 := HR1.out.c0
    have r5 := HR1.out.c1
    have r6 := HR1.out.c2
    have r7 := HR1.out.c3
    have r8 := HR1.out.c4
    have r9 := HR1.out.c5
    have r10 := HR1.out.c6
    have r11 := HR1.out.c7
    have r12 := HR1.out.cl
    have r13 := HR1.out.cg
    have rf := HR1.out.f
    go_wp2_with fail
    change bodyPost _ _ _ _ _ (pts w1 (w.heap.size + 2) (genL 0 0 0 0 Sl.nil 0 0))
    have hby := HR1.out.all 0 0 0 0 Sl.nil 0 0
    have HBz := Lib.hid (pts_below (B := w.heap.size) (b := (w.heap.size + 2)) (by omega) (genL 0 0 0 0 Sl.nil 0 0) HB1.out)
    have hrd := HR0.out (pts w1 (w.heap.size + 2) (genL 0 0 0 0 Sl.nil 0 0))
    rw [HPR.out]
    generalize pts w1 (w.heap.size + 2) (genL 0 0 0 0 Sl.nil 0 0) = V at *
    exact bodyPost_ret (v := .tuple #[genV 0 0 0 0 Sl.nil 0 0, .int .i64 1]) (by simp [results, Tryz.results19, go_sem, hby.n0, hby.n1, hby.n2, hby.n3, hby.c0, hby.c1, hby.c2, hby.c3, hby.c4, hby.c5, hby.c6, hby.c7, hby.cl, hby.cg]) rfl ⟨⟨_, rfl, hrd⟩, HBz.out⟩
  · obtain ⟨hr1, hr2⟩ := Hrv.out rfl
    by_cases hm : md = 1
    · by_cases hrv : rv2 = r + 1
      · have HPA := Lib.hid (show TG = if vc = true then (0, ⟨n, rv2, md, z2, ⟨f2, L2, G2⟩⟩) else (1, gn0) by rw [HG.out, if_pos rfl, if_pos ⟨hm, hrv⟩])
        clear HG
        subst hm hrv
        have x0 := HX1.out.n0
        have x1 := HX1.out.n1
        have x2 := HX1.out.n2
        have x3 := HX1.out.n3
        have x4 := HX1.out.c0
        have x5 := HX1.out.c1
        have x6 := HX1.out.c2
        have x7 := HX1.out.c3
        have x8 := HX1.out.c4
        have x9 := HX1.out.c5
        have x10 := HX1.out.c6
        have x11 := HX1.out.c7
        have x12 := HX1.out.cl
        have x13 := HX1.out.cg
        have xf := HX1.out.f
        have m0 := HM1.out.c0
        have m1 := HM1.out.c1
        have m2 := HM1.out.c2
        have m3 := HM1.out.c3
        have m4 := HM1.out.c4
        have m5 := HM1.out.c5
        have m6 := HM1.out.c6
        have m7 := HM1.out.c7
        have m8 := HM1.out.cl
        have m9 := HM1.out.cg
        go_wp2_with fail
        refine (HW.out _ HB1.out).mono ?_
        rintro e w3 ⟨⟨s3, rfl, ho3⟩, hb3⟩
        have HX3 := Lib.hid (HX1.out.below hb3)
        have HR3 := Lib.hid (HR1.out.below hb3)
        have HB3 := Lib.hid (bstep HB1.out hb3)
        have HO3 := Lib.hid (ho3.mono (show w.heap.size + 3 ≤ w1.heap.size by omega))
        clear x0 x1 x2 x3 x4 x5 x6 x7 x8 x9 x10 x11 x12 x13 xf
        clear m0 m1 m2 m3 m4 m5 m6 m7 m8 m9 hb3 ho3 HX1 HR1 HB1 HW HM1
        have x0 := HX3.out.n0
        have x1 := HX3.out.n1
        have x2 := HX3.out.n2
        have x3 := HX3.out.n3
        have x4 := HX3.out.c0
        have x5 := HX3.out.c1
        have x6 := HX3.out.c2
        have x7 := HX3.out.c3
        have x8 := HX3.out.c4
        have x9 := HX3.out.c5
        have x10 := HX3.out.c6
        have x11 := HX3.out.c7
        have x12 := HX3.out.cl
        have x13 := HX3.out.cg
        have xf := HX3.out.f
        go_upto_region 6 with fail
        change Code.wp _ _ _ _ (pts (pts (pts w3 w.heap.size [(1, .int .i64 (r + 1))]) w.heap.size [(3, .int .i64 z2)]) w.heap.size (mapL s3 L2 G2))
        have HX4 := Lib.hid (((HX3.out.num1 (r + 1)).num3 z2).map s3 L2 G2)
        have HR4 := Lib.hid (((HR3.out.pts_ne (show w.heap.size + 2 ≠ w.heap.size by omega) [(1, .int .i64 (r + 1))]).pts_ne (show w.heap.size + 2 ≠ w.heap.size by omega) [(3, .int .i64 z2)]).pts_ne (show w.heap.size + 2 ≠ w.heap.size by omega) (mapL s3 L2 G2))
        have HB4 := Lib.hid (pts_below (B := w.heap.size) (b := w.heap.size) (Nat.le_refl _) (mapL s3 L2 G2) (pts_below (B := w.heap.size) (b := w.heap.size) (Nat.le_refl _) [(3, .int .i64 z2)] (pts_below (B := w.heap.size) (b := w.heap.size) (Nat.le_refl _) [(1, .int .i64 (r + 1))] HB3.out)))
        have HO4 := Lib.hid (((HO3.out.pts (show w.heap.size < w.heap.size + 3 by omega) [(1, .int .i64 (r + 1))]).pts (show w.heap.size < w.heap.size + 3 by omega) [(3, .int .i64 z2)]).pts (show w.heap.size < w.heap.size + 3 by omega) (mapL s3 L2 G2))
        generalize pts (pts (pts w3 w.heap.size [(1, .int .i64 (r + 1))]) w.heap.size [(3, .int .i64 z2)]) w.heap.size (mapL s3 L2 G2) = w4 at *
        clear x0 x1 x2 x3 x4 x5 x6 x7 x8 x9 x10 x11 x12 x13 xf
        clear HX3 HR3 HB3 HO3
        have x0 := HX4.out.n0
        have x1 := HX4.out.n1
        have x2 := HX4.out.n2
        have x3 := HX4.out.n3
        have x4 := HX4.out.c0
        have x5 := HX4.out.c1
        have x6 := HX4.out.c2
        have x7 := HX4.out.c3
        have x8 := HX4.out.c4
        have x9 := HX4.out.c5
        have x10 := HX4.out.c6
        have x11 := HX4.out.c7
        have x12 := HX4.out.cl
        have x13 := HX4.out.cg
        go_wp2_with fail
        refine (HV2.out s3 _ HO4.out.rd).mono ?_
        rintro e w5 ⟨rfl, hb5⟩
        have HX5 := Lib.hid (HX4.out.below hb5)
        have HR5 := Lib.hid (HR4.out.below hb5)
        have HB5 := Lib.hid (bstep HB4.out hb5)
        have HO5 := Lib.hid (HO4.out.keep hb5)
        clear x0 x1 x2 x3 x4 x5 x6 x7 x8 x9 x10 x11 x12 x13
        clear hb5 HX4 HR4 HB4 HO4 HV2
        cases vc
        · have HPR := Lib.hid (show TG = (1, gn0) from HPA.out)
          have r0 := HR5.out.n0
          have r1 := HR5.out.n1
          have r2 := HR5.out.n2
          have r3 := HR5.out.n3
          have r4 := HR5.out.c0
          have r5 := HR5.out.c1
          have r6 := HR5.out.c2
          have r7 := HR5.out.c3
          have r8 := HR5.out.c4
          have r9 := HR5.out.c5
          have r10 := HR5.out.c6
          have r11 := HR5.out.c7
          have r12 := HR5.out.cl
          have r13 := HR5.out.cg
          have rf := HR5.out.f
          go_wp2_with fail
          change bodyPost _ _ _ _ _ (pts w5 (w.heap.size + 2) (genL 0 0 0 0 Sl.nil 0 0))
          have hby := HR5.out.all 0 0 0 0 Sl.nil 0 0
          have HBz := Lib.hid (pts_below (B := w.heap.size) (b := (w.heap.size + 2)) (by omega) (genL 0 0 0 0 Sl.nil 0 0) HB5.out)
          have hrd := HR0.out (pts w5 (w.heap.size + 2) (genL 0 0 0 0 Sl.nil 0 0))
          rw [HPR.out]
          generalize pts w5 (w.heap.size + 2) (genL 0 0 0 0 Sl.nil 0 0) = V at *
          exact bodyPost_ret (v := .tuple #[genV 0 0 0 0 Sl.nil 0 0, .int .i64 1]) (by simp [results, Tryz.results19, go_sem, hby.n0, hby.n1, hby.n2, hby.n3, hby.c0, hby.c1, hby.c2, hby.c3, hby.c4, hby.c5, hby.c6, hby.c7, hby.cl, hby.cg]) rfl ⟨⟨_, rfl, hrd⟩, HBz.out⟩
        · have HPR := Lib.hid (show TG = (0, ⟨n, (r + 1), 1, z2, ⟨f2, L2, G2⟩⟩) from HPA.out)
          have x0 := HX5.out.n0
          have x1 := HX5.out.n1
          have x2 := HX5.out.n2
          have x3 := HX5.out.n3
          have x4 := HX5.out.c0
          have x5 := HX5.out.c1
          have x6 := HX5.out.c2
          have x7 := HX5.out.c3
          have x8 := HX5.out.c4
          have x9 := HX5.out.c5
          have x10 := HX5.out.c6
          have x11 := HX5.out.c7
          have x12 := HX5.out.cl
          have x13 := HX5.out.cg
          have r0 := HR5.out.n0
          have r1 := HR5.out.n1
          have r2 := HR5.out.n2
          have r3 := HR5.out.n3
          have r4 := HR5.out.c0
          have r5 := HR5.out.c1
          have r6 := HR5.out.c2
          have r7 := HR5.out.c3
          have r8 := HR5.out.c4
          have r9 := HR5.out.c5
          have r10 := HR5.out.c6
          have r11 := HR5.out.c7
          have r12 := HR5.out.cl
          have r13 := HR5.out.cg
          have rf := HR5.out.f
          go_wp2_with fail
          change bodyPost _ _ _ _ _ (pts w5 (w.heap.size + 2) (genL n (r + 1) 1 z2 s3 L2 G2))
          have hby := HR5.out.all n (r + 1) 1 z2 s3 L2 G2
          have HBz := Lib.hid (pts_below (B := w.heap.size) (b := (w.heap.size + 2)) (by omega) (genL n (r + 1) 1 z2 s3 L2 G2) HB5.out)
          have hrd := (HO5.out.pts (show w.heap.size + 2 < w.heap.size + 3 by omega) (genL n (r + 1) 1 z2 s3 L2 G2)).mono (show w.heap.size ≤ w.heap.size + 3 by omega)
          rw [HPR.out]
          generalize pts w5 (w.heap.size + 2) (genL n (r + 1) 1 z2 s3 L2 G2) = V at *
          exact bodyPost_ret (v := .tuple #[genV n (r + 1) 1 z2 s3 L2 G2, .int .i64 0]) (by simp [results, Tryz.results19, go_sem, hby.n0, hby.n1, hby.n2, hby.n3, hby.c0, hby.c1, hby.c2, hby.c3, hby.c4, hby.c5, hby.c6, hby.c7, hby.cl, hby.cg]) rfl ⟨⟨_, rfl, hrd⟩, HBz.out⟩
      · have er : (rv2 == r + 1) = false := beq_eq_false_iff_ne.2 hrv
        have HPR := Lib.hid (show TG = (12, gn0) by rw [HG.out, if_pos rfl, if_neg (fun h => hrv h.2)])
        clear HG
        subst hm
        have x0 := HX1.out.n0
        have x1 := HX1.out.n1
        have x2 := HX1.out.n2
        have x3 := HX1.out.n3
        have x4 := HX1.out.c0
        have x5 := HX1.out.c1
        have x6 := HX1.out.c2
        have x7 := HX1.out.c3
        have x8 := HX1.out.c4
        have x9 := HX1.out.c5
        have x10 := HX1.out.c6
        have x11 := HX1.out.c7
        have x12 := HX1.out.cl
        have x13 := HX1.out.cg
        have r0 := HR1.out.n0
        have r1 := HR1.out.n1
        have r2 := HR1.out.n2
        have r3 := HR1.out.n3
        have r4 := HR1.out.c0
        have r5 := HR1.out.c1
        have r6 := HR1.out.c2
        have r7 := HR1.out.c3
        have r8 := HR1.out.c4
        have r9 := HR1.out.c5
        have r10 := HR1.out.c6
        have r11 := HR1.out.c7
        have r12 := HR1.out.cl
        have r13 := HR1.out.cg
        have rf := HR1.out.f
        go_wp2_with fail
        change bodyPost _ _ _ _ _ (pts w1 (w.heap.size + 2) (genL 0 0 0 0 Sl.nil 0 0))
        have hby := HR1.out.all 0 0 0 0 Sl.nil 0 0
        have HBz := Lib.hid (pts_below (B := w.heap.size) (b := (w.heap.size + 2)) (by omega) (genL 0 0 0 0 Sl.nil 0 0) HB1.out)
        have hrd := HR0.out (pts w1 (w.heap.size + 2) (genL 0 0 0 0 Sl.nil 0 0))
        rw [HPR.out]
        generalize pts w1 (w.heap.size + 2) (genL 0 0 0 0 Sl.nil 0 0) = V at *
        exact bodyPost_ret (v := .tuple #[genV 0 0 0 0 Sl.nil 0 0, .int .i64 12]) (by simp [results, Tryz.results19, go_sem, hby.n0, hby.n1, hby.n2, hby.n3, hby.c0, hby.c1, hby.c2, hby.c3, hby.c4, hby.c5, hby.c6, hby.c7, hby.cl, hby.cg]) rfl ⟨⟨_, rfl, hrd⟩, HBz.out⟩
    · have em : (md == 1) = false := beq_eq_false_iff_ne.2 hm
      have HPR := Lib.hid (show TG = (12, gn0) by rw [HG.out, if_pos rfl, if_neg (fun h => hm h.1)])
      clear HG
      have x0 := HX1.out.n0
      have x1 := HX1.out.n1
      have x2 := HX1.out.n2
      have x3 := HX1.out.n3
      have x4 := HX1.out.c0
      have x5 := HX1.out.c1
      have x6 := HX1.out.c2
      have x7 := HX1.out.c3
      have x8 := HX1.out.c4
      have x9 := HX1.out.c5
      have x10 := HX1.out.c6
      have x11 := HX1.out.c7
      have x12 := HX1.out.cl
      have x13 := HX1.out.cg
      have r0 := HR1.out.n0
      have r1 := HR1.out.n1
      have r2 := HR1.out.n2
      have r3 := HR1.out.n3
      have r4 := HR1.out.c0
      have r5 := HR1.out.c1
      have r6 := HR1.out.c2
      have r7 := HR1.out.c3
      have r8 := HR1.out.c4
      have r9 := HR1.out.c5
      have r10 := HR1.out.c6
      have r11 := HR1.out.c7
      have r12 := HR1.out.cl
      have r13 := HR1.out.cg
      have rf := HR1.out.f
      go_wp2_with fail
      change bodyPost _ _ _ _ _ (pts w1 (w.heap.size + 2) (genL 0 0 0 0 Sl.nil 0 0))
      have hby := HR1.out.all 0 0 0 0 Sl.nil 0 0
      have HBz := Lib.hid (pts_below (B := w.heap.size) (b := (w.heap.size + 2)) (by omega) (genL 0 0 0 0 Sl.nil 0 0) HB1.out)
      have hrd := HR0.out (pts w1 (w.heap.size + 2) (genL 0 0 0 0 Sl.nil 0 0))
      rw [HPR.out]
      generalize pts w1 (w.heap.size + 2) (genL 0 0 0 0 Sl.nil 0 0) = V at *
      exact bodyPost_ret (v := .tuple #[genV 0 0 0 0 Sl.nil 0 0, .int .i64 12]) (by simp [results, Tryz.results19, go_sem, hby.n0, hby.n1, hby.n2, hby.n3, hby.c0, hby.c1, hby.c2, hby.c3, hby.c4, hby.c5, hby.c6, hby.c7, hby.cl, hby.cg]) rfl ⟨⟨_, rfl, hrd⟩, HBz.out⟩
set_option maxRecDepth 100000 in
set_option maxHeartbeats 8000000 in
theorem rswap_any (g : Gn) (s : Sl) (rv2 z2 : Int) (M : Mp) (s2 : Sl) (w : World) (h : RdM w s g.m.st) (hs : ∀ i, i < 8 → (g.m.st i).length ≤ 10000) (h2 : RdM w s2 M.st) (hs2 : ∀ i, i < 8 → (M.st i).length ≤ 10000) :
    Calls Tryz.prog 20 #[genV g.num g.rev g.mode g.size s g.m.live g.m.garb, .int .i64 rv2, .int .i64 z2, mapV s2 M.live M.garb] w (GOO w s2 M.st (swapG g rv2 z2 M)) := by
  have HV := Lib.hid (fun W (hb : Below w.heap.size w W) => rgvalid_any g s W (h.below hb) hs)
  have HV2 := Lib.hid (fun s2 W (h2 : RdM W s2 M.st) => rgvalid_any ⟨g.num, rv2, g.mode, z2, M⟩ s2 W h2 hs2)
  have HR0 := Lib.hid (show ∀ W, OldOwn W w.heap.size s2 M.st Sl.nil gn0.m.st from fun W => OldOwn.nil W _ _ _)
  have HRf := Lib.hid (show ∀ W, OldOwn W w.heap.size s2 M.st s2 M.st from fun W => OldOwn.refl W _ _ _)
  have HM2 := Lib.hid (show ∀ W, Below w.heap.size w W → RdM W s2 M.st from fun W hb => h2.below hb)
  have HG := Lib.hid (show swapG g rv2 z2 M = if vldG g = true then (if g.mode = 1 ∧ rv2 = g.rev + 1 then (if vldG ⟨g.num, rv2, g.mode, z2, M⟩ = true then (0, ⟨g.num, rv2, g.mode, z2, M⟩) else (1, gn0)) else (12, gn0)) else (1, gn0) from rfl)
  have Hrv := Lib.hid (show vldG g = true → 0 ≤ g.rev ∧ g.rev ≤ 4294967295 from fun hv => ((vldG_iff g).1 hv).rev)
  generalize vldG g = vb at *
  obtain ⟨n, r, md, z, ⟨f, L, G⟩⟩ := g
  obtain ⟨f2, L2, G2⟩ := M
  dsimp only at *
  generalize vldG ⟨n, rv2, md, z2, ⟨f2, L2, G2⟩⟩ = vc at *
  generalize swapG ⟨n, r, md, z, ⟨f, L, G⟩⟩ rv2 z2 ⟨f2, L2, G2⟩ = TG at *
  obtain ⟨W, hW, hbx, hbm, hbr, hbw⟩ := three_box w n r md z s L G s2 L2 G2 27 25
  have HX := Lib.hid hbx
  have HM := Lib.hid hbm
  have HR := Lib.hid hbr
  have HB := Lib.hid hbw
  clear hbx hbm hbr hbw h hs h2 hs2
  go_enter Tryz.func20, Tryz.ntmps20
  go_upto_region 1 with fail
  change Code.wp _ _ _ _ (((w.alloc (.cells (genC n r md z s L G) 27)).alloc (.cells (mapC s2 L2 G2) 25)).alloc (.cells (genC 0 0 0 0 Sl.nil 0 0) 27))
  rw [hW]
  clear hW
  have x0 := HX.out.n0
  have x1 := HX.out.n1
  have x2 := HX.out.n2
  have x3 := HX.out.n3
  have x4 := HX.out.c0
  have x5 := HX.out.c1
  have x6 := HX.out.c2
  have x7 := HX.out.c3
  have x8 := HX.out.c4
  have x9 := HX.out.c5
  have x10 := HX.out.c6
  have x11 := HX.out.c7
  have x12 := HX.out.cl
  have x13 := HX.out.cg
  go_wp2_with fail
  refine (HV.out _ HB.out).mono ?_
  rintro e w1 ⟨rfl, hb1⟩
  have HX1 := Lib.hid (HX.out.below hb1)
  have HM1 := Lib.hid (HM.out.below hb1)
  have HR1 := Lib.hid (HR.out.below hb1)
  have HB1 := Lib.hid (bstep HB.out hb1)
  clear x0 x1 x2 x3 x4 x5 x6 x7 x8 x9 x10 x11 x12 x13
  clear hb1 HX HM HR HB HV
  have hlr := HR1.out.lt
  cases vb
  · have HPR := Lib.hid (show TG = (1, gn0) from HG.out)
    have r0 := HR1.out.n0
    have r1 := HR1.out.n1
    have r2 := HR1.out.n2
    have r3 := HR1.out.n3
    have r4 := HR1.out.c0
    have r5 := HR1.out.c1
    have r6 := HR1.out.c2
    have r7 := HR1.out.c3
    have r8 := HR1.out.c4
    have r9 := HR1.out.c5
    have r10 := HR1.out.c6
    have r11 := HR1.out.c7
    have r12 := HR1.out.cl
    have r13 := HR1.out.cg
    have rf := HR1.out.f
    go_wp2_with fail
    change bodyPost _ _ _ _ _ (pts w1 (w.heap.size + 2) (genL 0 0 0 0 Sl.nil 0 0))
    have hby := HR1.out.all 0 0 0 0 Sl.nil 0 0
    have HBz := Lib.hid (pts_below (B := w.heap.size) (b := (w.heap.size + 2)) (by omega) (genL 0 0 0 0 Sl.nil 0 0) HB1.out)
    have hrd := HR0.out (pts w1 (w.heap.size + 2) (genL 0 0 0 0 Sl.nil 0 0))
    rw [HPR.out]
    generalize pts w1 (w.heap.size + 2) (genL 0 0 0 0 Sl.nil 0 0) = V at *
    exact bodyPost_ret (v := .tuple #[genV 0 0 0 0 Sl.nil 0 0, .int .i64 1]) (by simp [results, Tryz.results20, go_sem, hby.n0, hby.n1, hby.n2, hby.n3, hby.c0, hby.c1, hby.c2, hby.c3, hby.c4, hby.c5, hby.c6, hby.c7, hby.cl, hby.cg]) rfl ⟨⟨_, rfl, hrd⟩, HBz.out⟩
  · obtain ⟨hr1, hr2⟩ := Hrv.out rfl
    by_cases hm : md = 1
    · by_cases hrv : rv2 = r + 1
      · have HPA := Lib.hid (show TG = if vc = true then (0, ⟨n, rv2, md, z2, ⟨f2, L2, G2⟩⟩) else (1, gn0) by rw [HG.out, if_pos rfl, if_pos ⟨hm, hrv⟩])
        clear HG
        subst hm hrv
        have x0 := HX1.out.n0
        have x1 := HX1.out.n1
        have x2 := HX1.out.n2
        have x3 := HX1.out.n3
        have x4 := HX1.out.c0
        have x5 := HX1.out.c1
        have x6 := HX1.out.c2
        have x7 := HX1.out.c3
        have x8 := HX1.out.c4
        have x9 := HX1.out.c5
        have x10 := HX1.out.c6
        have x11 := HX1.out.c7
        have x12 := HX1.out.cl
        have x13 := HX1.out.cg
        have xf := HX1.out.f
        have m0 := HM1.out.c0
        have m1 := HM1.out.c1
        have m2 := HM1.out.c2
        have m3 := HM1.out.c3
        have m4 := HM1.out.c4
        have m5 := HM1.out.c5
        have m6 := HM1.out.c6
        have m7 := HM1.out.c7
        have m8 := HM1.out.cl
        have m9 := HM1.out.cg
        go_upto_region 5 with fail
        go_region
        go_upto_region 6 with fail
        change Code.wp _ _ _ _ (World.drew (pts (pts (pts w1 w.heap.size [(1, .int .i64 (r + 1))]) w.heap.size [(3, .int .i64 z2)]) w.heap.size (mapL s2 L2 G2)))
        have HX3 := HX1
        have HR3 := HR1
        have HB3 := HB1
        clear HX1 HR1 HB1 HM1
        have HX4 := Lib.hid (((HX3.out.num1 (r + 1)).num3 z2).map s2 L2 G2)
        have HR4 := Lib.hid (((HR3.out.pts_ne (show w.heap.size + 2 ≠ w.heap.size by omega) [(1, .int .i64 (r + 1))]).pts_ne (show w.heap.size + 2 ≠ w.heap.size by omega) [(3, .int .i64 z2)]).pts_ne (show w.heap.size + 2 ≠ w.heap.size by omega) (mapL s2 L2 G2))
        have HB4 := Lib.hid (pts_below (B := w.heap.size) (b := w.heap.size) (Nat.le_refl _) (mapL s2 L2 G2) (pts_below (B := w.heap.size) (b := w.heap.size) (Nat.le_refl _) [(3, .int .i64 z2)] (pts_below (B := w.heap.size) (b := w.heap.size) (Nat.le_refl _) [(1, .int .i64 (r + 1))] HB3.out)))
        replace HX4 := Lib.hid (HX4.out.below (below_drew (Below.refl _ _)))
        replace HR4 := Lib.hid (HR4.out.below (below_drew (Below.refl _ _)))
        replace HB4 := Lib.hid (bstep HB4.out (below_drew (Below.refl _ _)))
        generalize World.drew (pts (pts (pts w1 w.heap.size [(1, .int .i64 (r + 1))]) w.heap.size [(3, .int .i64 z2)]) w.heap.size (mapL s2 L2 G2)) = w4 at *
        clear x0 x1 x2 x3 x4 x5 x6 x7 x8 x9 x10 x11 x12 x13 xf
        clear HX3 HR3 HB3
        have x0 := HX4.out.n0
        have x1 := HX4.out.n1
        have x2 := HX4.out.n2
        have x3 := HX4.out.n3
        have x4 := HX4.out.c0
        have x5 := HX4.out.c1
        have x6 := HX4.out.c2
        have x7 := HX4.out.c3
        have x8 := HX4.out.c4
        have x9 := HX4.out.c5
        have x10 := HX4.out.c6
        have x11 := HX4.out.c7
        have x12 := HX4.out.cl
        have x13 := HX4.out.cg
        go_wp2_with fail
        refine (HV2.out s2 _ (HM2.out _ HB4.out)).mono ?_
        rintro e w5 ⟨rfl, hb5⟩
        have HX5 := Lib.hid (HX4.out.below hb5)
        have HR5 := Lib.hid (HR4.out.below hb5)
        have HB5 := Lib.hid (bstep HB4.out hb5)
        clear x0 x1 x2 x3 x4 x5 x6 x7 x8 x9 x10 x11 x12 x13
        clear hb5 HX4 HR4 HB4 HV2
        cases vc
        · have HPR := Lib.hid (show TG = (1, gn0) from HPA.out)
          have r0 := HR5.out.n0
          have r1 := HR5.out.n1
          have r2 := HR5.out.n2
          have r3 := HR5.out.n3
          have r4 := HR5.out.c0
          have r5 := HR5.out.c1
          have r6 := HR5.out.c2
          have r7 := HR5.out.c3
          have r8 := HR5.out.c4
          have r9 := HR5.out.c5
          have r10 := HR5.out.c6
          have r11 := HR5.out.c7
          have r12 := HR5.out.cl
          have r13 := HR5.out.cg
          have rf := HR5.out.f
          go_wp2_with fail
          change bodyPost _ _ _ _ _ (pts w5 (w.heap.size + 2) (genL 0 0 0 0 Sl.nil 0 0))
          have hby := HR5.out.all 0 0 0 0 Sl.nil 0 0
          have HBz := Lib.hid (pts_below (B := w.heap.size) (b := (w.heap.size + 2)) (by omega) (genL 0 0 0 0 Sl.nil 0 0) HB5.out)
          have hrd := HR0.out (pts w5 (w.heap.size + 2) (genL 0 0 0 0 Sl.nil 0 0))
          rw [HPR.out]
          generalize pts w5 (w.heap.size + 2) (genL 0 0 0 0 Sl.nil 0 0) = V at *
          exact bodyPost_ret (v := .tuple #[genV 0 0 0 0 Sl.nil 0 0, .int .i64 1]) (by simp [results, Tryz.results20, go_sem, hby.n0, hby.n1, hby.n2, hby.n3, hby.c0, hby.c1, hby.c2, hby.c3, hby.c4, hby.c5, hby.c6, hby.c7, hby.cl, hby.cg]) rfl ⟨⟨_, rfl, hrd⟩, HBz.out⟩
        · have HPR := Lib.hid (show TG = (0, ⟨n, (r + 1), 1, z2, ⟨f2, L2, G2⟩⟩) from HPA.out)
          have x0 := HX5.out.n0
          have x1 := HX5.out.n1
          have x2 := HX5.out.n2
          have x3 := HX5.out.n3
          have x4 := HX5.out.c0
          have x5 := HX5.out.c1
          have x6 := HX5.out.c2
          have x7 := HX5.out.c3
          have x8 := HX5.out.c4
          have x9 := HX5.out.c5
          have x10 := HX5.out.c6
          have x11 := HX5.out.c7
          have x12 := HX5.out.cl
          have x13 := HX5.out.cg
          have r0 := HR5.out.n0
          have r1 := HR5.out.n1
          have r2 := HR5.out.n2
          have r3 := HR5.out.n3
          have r4 := HR5.out.c0
          have r5 := HR5.out.c1
          have r6 := HR5.out.c2
          have r7 := HR5.out.c3
          have r8 := HR5.out.c4
          have r9 := HR5.out.c5
          have r10 := HR5.out.c6
          have r11 := HR5.out.c7
          have r12 := HR5.out.cl
          have r13 := HR5.out.cg
          have rf := HR5.out.f
          go_wp2_with fail
          change bodyPost _ _ _ _ _ (pts w5 (w.heap.size + 2) (genL n (r + 1) 1 z2 s2 L2 G2))
          have hby := HR5.out.all n (r + 1) 1 z2 s2 L2 G2
          have HBz := Lib.hid (pts_below (B := w.heap.size) (b := (w.heap.size + 2)) (by omega) (genL n (r + 1) 1 z2 s2 L2 G2) HB5.out)
          have hrd := HRf.out (pts w5 (w.heap.size + 2) (genL n (r + 1) 1 z2 s2 L2 G2))
          rw [HPR.out]
          generalize pts w5 (w.heap.size + 2) (genL n (r + 1) 1 z2 s2 L2 G2) = V at *
          exact bodyPost_ret (v := .tuple #[genV n (r + 1) 1 z2 s2 L2 G2, .int .i64 0]) (by simp [results, Tryz.results20, go_sem, hby.n0, hby.n1, hby.n2, hby.n3, hby.c0, hby.c1, hby.c2, hby.c3, hby.c4, hby.c5, hby.c6, hby.c7, hby.cl, hby.cg]) rfl ⟨⟨_, rfl, hrd⟩, HBz.out⟩
      · have er : (rv2 == r + 1) = false := beq_eq_false_iff_ne.2 hrv
        have HPR := Lib.hid (show TG = (12, gn0) by rw [HG.out, if_pos rfl, if_neg (fun h => hrv h.2)])
        clear HG
        subst hm
        have x0 := HX1.out.n0
        have x1 := HX1.out.n1
        have x2 := HX1.out.n2
        have x3 := HX1.out.n3
        have x4 := HX1.out.c0
        have x5 := HX1.out.c1
        have x6 := HX1.out.c2
        have x7 := HX1.out.c3
        have x8 := HX1.out.c4
        have x9 := HX1.out.c5
        have x10 := HX1.out.c6
        have x11 := HX1.out.c7
        have x12 := HX1.out.cl
        have x13 := HX1.out.cg
        have r0 := HR1.out.n0
        have r1 := HR1.out.n1
        have r2 := HR1.out.n2
        have r3 := HR1.out.n3
        have r4 := HR1.out.c0
        have r5 := HR1.out.c1
        have r6 := HR1.out.c2
        have r7 := HR1.out.c3
        have r8 := HR1.out.c4
        have r9 := HR1.out.c5
        have r10 := HR1.out.c6
        have r11 := HR1.out.c7
        have r12 := HR1.out.cl
        have r13 := HR1.out.cg
        have rf := HR1.out.f
        go_wp2_with fail
        change bodyPost _ _ _ _ _ (pts w1 (w.heap.size + 2) (genL 0 0 0 0 Sl.nil 0 0))
        have hby := HR1.out.all 0 0 0 0 Sl.nil 0 0
        have HBz := Lib.hid (pts_below (B := w.heap.size) (b := (w.heap.size + 2)) (by omega) (genL 0 0 0 0 Sl.nil 0 0) HB1.out)
        have hrd := HR0.out (pts w1 (w.heap.size + 2) (genL 0 0 0 0 Sl.nil 0 0))
        rw [HPR.out]
        generalize pts w1 (w.heap.size + 2) (genL 0 0 0 0 Sl.nil 0 0) = V at *
        exact bodyPost_ret (v := .tuple #[genV 0 0 0 0 Sl.nil 0 0, .int .i64 12]) (by simp [results, Tryz.results20, go_sem, hby.n0, hby.n1, hby.n2, hby.n3, hby.c0, hby.c1, hby.c2, hby.c3, hby.c4, hby.c5, hby.c6, hby.c7, hby.cl, hby.cg]) rfl ⟨⟨_, rfl, hrd⟩, HBz.out⟩
    · have em : (md == 1) = false := beq_eq_false_iff_ne.2 hm
      have HPR := Lib.hid (show TG = (12, gn0) by rw [HG.out, if_pos rfl, if_neg (fun h => hm h.1)])
      clear HG
      have x0 := HX1.out.n0
      have x1 := HX1.out.n1
      have x2 := HX1.out.n2
      have x3 := HX1.out.n3
      have x4 := HX1.out.c0
      have x5 := HX1.out.c1
      have x6 := HX1.out.c2
      have x7 := HX1.out.c3
      have x8 := HX1.out.c4
      have x9 := HX1.out.c5
      have x10 := HX1.out.c6
      have x11 := HX1.out.c7
      have x12 := HX1.out.cl
      have x13 := HX1.out.cg
      have r0 := HR1.out.n0
      have r1 := HR1.out.n1
      have r2 := HR1.out.n2
      have r3 := HR1.out.n3
      have r4 := HR1.out.c0
      have r5 := HR1.out.c1
      have r6 := HR1.out.c2
      have r7 := HR1.out.c3
      have r8 := HR1.out.c4
      have r9 := HR1.out.c5
      have r10 := HR1.out.c6
      have r11 := HR1.out.c7
      have r12 := HR1.out.cl
      have r13 := HR1.out.cg
      have rf := HR1.out.f
      go_wp2_with fail
      change bodyPost _ _ _ _ _ (pts w1 (w.heap.size + 2) (genL 0 0 0 0 Sl.nil 0 0))
      have hby := HR1.out.all 0 0 0 0 Sl.nil 0 0
      have HBz := Lib.hid (pts_below (B := w.heap.size) (b := (w.heap.size + 2)) (by omega) (genL 0 0 0 0 Sl.nil 0 0) HB1.out)
      have hrd := HR0.out (pts w1 (w.heap.size + 2) (genL 0 0 0 0 Sl.nil 0 0))
      rw [HPR.out]
      generalize pts w1 (w.heap.size + 2) (genL 0 0 0 0 Sl.nil 0 0) = V at *
      exact bodyPost_ret (v := .tuple #[genV 0 0 0 0 Sl.nil 0 0, .int .i64 12]) (by simp [results, Tryz.results20, go_sem, hby.n0, hby.n1, hby.n2, hby.n3, hby.c0, hby.c1, hby.c2, hby.c3, hby.c4, hby.c5, hby.c6, hby.c7, hby.cl, hby.cg]) rfl ⟨⟨_, rfl, hrd⟩, HBz.out⟩
end Go.Proofs.YtenkeodfijladaaGreatDoor
