/- The needle map's Put: the walk. -/
import Derived.Test.YtenkeodfijladaaGreatDoorGB
namespace Go.Proofs.YtenkeodfijladaaGreatDoor
open Go.RowKit

def insM (M : Mp) (x : It) : Mp :=
  if vldM M = true ∧ okB x = true ∧ M.garb + (szO (fnd (M.st (strp x.key)) x.key) : Int) ≤ 1099511627776 then
    ⟨fun i => if i = strp x.key then ins (M.st i) x else M.st i, M.live + (lenO x : Int) - (szO (fnd (M.st (strp x.key)) x.key) : Int), M.garb + (szO (fnd (M.st (strp x.key)) x.key) : Int)⟩ else M
theorem vldB_one (x : It) : vldB [x] = okB x := by
  unfold vldB
  simp [ascB]
theorem rd_lit1 (w : World) (x : It) (k : Nat) (hk : w.heap.size = k) : RdT (w.alloc (boxC x)) (.slice (some ⟨k, 0, none⟩) 1 1) [x] := by
  subst hk; exact rd_rdT (n := 1) (by rw [itsC_one]; exact Rd.new w 4 (itC x) 77 1 rfl (by decide))
set_option maxRecDepth 100000 in
set_option maxHeartbeats 8000000 in
theorem putM_any (s : Sl) (M : Mp) (x : It) (w : World) (h : RdM w s M.st) (hs : ∀ i, i < 8 → (M.st i).length ≤ 10000) :
    Calls Tryz.prog 32 #[mapV s M.live M.garb, itV x] w fun e w' => (∃ s', e = .returned (mapV s' (insM M x).live (insM M x).garb) ∧ OwnM w' w.heap.size s' (insM M x).st) ∧ Below w.heap.size w w' := by
  have HV := Lib.hid (fun s W h => validM_any s M W h (fun i hi => Nat.le_trans (hs i hi) (by decide)))
  obtain ⟨W0, hW0⟩ : ∃ W0, ((w.alloc (.cells (mapC s M.live M.garb) 41)).alloc (boxC x)).alloc (.cells (mapC Sl.nil 0 0) 41) = W0 := ⟨_, rfl⟩
  have HBx := Lib.hid (show BoxM W0 w.heap.size s M.live M.garb from hW0 ▸ (((BoxM.new w s M.live M.garb 41).below (below_box _ x)).below (below_map _ Sl.nil 0 0 41)))
  have HBi := Lib.hid (show BoxI W0 (w.heap.size + 1) x from hW0 ▸ (by have := (BoxI.new (w.alloc (.cells (mapC s M.live M.garb) 41)) x).below (below_map _ Sl.nil 0 0 41); simpa using this))
  have HBy := Lib.hid (show BoxM W0 (w.heap.size + 2) Sl.nil 0 0 from hW0 ▸ (by have := BoxM.new ((w.alloc (.cells (mapC s M.live M.garb) 41)).alloc (boxC x)) Sl.nil 0 0 41; simpa using this))
  have HB0 := Lib.hid (show Below w.heap.size w W0 from hW0 ▸ bstep (bstep (below_map w s M.live M.garb 41) (below_box _ x)) (below_map _ Sl.nil 0 0 41))
  have hs0 : W0.heap.size = w.heap.size + 3 := by rw [← hW0]; simp
  have HW00 := Lib.hid hW0
  clear hW0
  have HC := Lib.hid (fun W h => cloneM_any s M.live M.garb M.st W h (fun i hi => Nat.le_trans (hs i hi) (by decide)))
  have Hr := Lib.hid h
  have hk8 := strp_lt x.key
  have HS := Lib.hid (fun W => stripe_any x.key W)
  have HVo := Lib.hid (fun v W h => vld_any v [x] W h)
  rw [vldB_one] at HVo
  have HSo := Lib.hid (fun hv : vldM M = true => (⟨live_small ((vldM_iff M).1 hv) hs, ((vldM_iff M).1 hv).g0, ((vldM_iff M).1 hv).g1, vld_size (((vldM_iff M).1 hv).ok _ hk8), srt_of_asc (vld_asc (((vldM_iff M).1 hv).ok _ hk8))⟩ : _ ∧ _ ∧ _ ∧ _ ∧ _))
  have HPt := Lib.hid (fun v W h => put_any v (M.st (strp x.key)) x W h (sorted_all _ (Nat.le_trans (hs _ hk8) (by decide))) (Nat.le_trans (hs _ hk8) (by decide)))
  have HFd := Lib.hid (fun v W h => find_any v (M.st (strp x.key)) x.key W h (sorted_all _ (Nat.le_trans (hs _ hk8) (by decide))) (Nat.le_trans (hs _ hk8) (by decide)))
  have HW1 := Lib.hid (show vldM M = true ∧ okB x = true ∧ M.garb + (szO (fnd (M.st (strp x.key)) x.key) : Int) ≤ 1099511627776 → insM M x = ⟨fun i => if i = strp x.key then ins (M.st i) x else M.st i, M.live + (lenO x : Int) - (szO (fnd (M.st (strp x.key)) x.key) : Int), M.garb + (szO (fnd (M.st (strp x.key)) x.key) : Int)⟩ from fun h => by unfold insM; exact if_pos h)
  have HW2 := Lib.hid (show ¬ (vldM M = true ∧ okB x = true ∧ M.garb + (szO (fnd (M.st (strp x.key)) x.key) : Int) ≤ 1099511627776) → insM M x = M from fun h => by unfold insM; exact if_neg h)
  have HMem := Lib.hid (fun y (h : fnd (M.st (strp x.key)) x.key = some y) => (fnd_some_mem h).1)
  clear h hs
  generalize hfn : fnd (M.st (strp x.key)) x.key = o at *
  have HFn := Lib.hid hfn
  clear hfn
  generalize insM M x = WM at *
  generalize vldM M = vb at *
  generalize strp x.key = k at *
  obtain ⟨f, L, G⟩ := M
  dsimp only at *
  go_enter Tryz.func32, Tryz.ntmps32
  go_upto_region 1 with fail
  have hW0 := HW00.out
  rw [show ((w.alloc (.cells (mapC s L G) 41)).alloc (boxC x)).alloc (.cells #[.slice none 0 0, .slice none 0 0, .slice none 0 0, .slice none 0 0, .slice none 0 0, .slice none 0 0, .slice none 0 0, .slice none 0 0, .int .i64 0, .int .i64 0] 41) = W0 from hW0]
  clear hW0 HW00
  have c0 := HBx.out.c0
  have c1 := HBx.out.c1
  have c2 := HBx.out.c2
  have c3 := HBx.out.c3
  have c4 := HBx.out.c4
  have c5 := HBx.out.c5
  have c6 := HBx.out.c6
  have c7 := HBx.out.c7
  have c8 := HBx.out.cl
  have c9 := HBx.out.cg
  have cF := HBx.out.f
  go_wp2_with fail
  refine (HC.out _ (Hr.out.below HB0.out)).mono ?_; rintro e w1 ⟨⟨s1, rfl, hown1⟩, hb1⟩
  have HX1 := Lib.hid (HBx.out.below hb1)
  have HI1 := Lib.hid (HBi.out.below hb1)
  have HY1 := Lib.hid (HBy.out.below hb1)
  have HB1 := Lib.hid (bstep HB0.out hb1)
  have HO1 := Lib.hid (hown1.mono (show w.heap.size + 3 ≤ _ by omega))
  clear c0 c1 c2 c3 c4 c5 c6 c7 c8 c9 cF
  have c0 := HX1.out.c0
  have c1 := HX1.out.c1
  have c2 := HX1.out.c2
  have c3 := HX1.out.c3
  have c4 := HX1.out.c4
  have c5 := HX1.out.c5
  have c6 := HX1.out.c6
  have c7 := HX1.out.c7
  have c8 := HX1.out.cl
  have c9 := HX1.out.cg
  have cF := HX1.out.f
  clear hown1 hb1 HC HBx HBy HBi HB0
  go_upto_region 2 with fail
  change Code.wp _ _ _ _ (putM w1 w.heap.size s1 L G)
  obtain ⟨V, hV⟩ : ∃ V, putM w1 w.heap.size s1 L G = V := ⟨_, rfl⟩
  have HXv := Lib.hid (show BoxM V w.heap.size s1 L G from hV ▸ HX1.out.all s1 L G)
  have HIv := Lib.hid (show BoxI V (w.heap.size + 1) x from hV ▸ HI1.out.putM_ne (by omega) s1 L G)
  have HYv := Lib.hid (show BoxM V (w.heap.size + 2) Sl.nil 0 0 from hV ▸ HY1.out.putM_ne (by omega) s1 L G)
  have HBv := Lib.hid (show Below w.heap.size w V from hV ▸ putM_below HB1.out (Nat.le_refl _) s1 L G)
  have HOv := Lib.hid (show OwnM V (w.heap.size + 3) s1 f from hV ▸ HO1.out.putM (by omega) s1 L G)
  rw [hV]
  clear hV c0 c1 c2 c3 c4 c5 c6 c7 c8 c9 cF HX1 HI1 HY1 HB1 HO1
  have c0 := HXv.out.c0
  have c1 := HXv.out.c1
  have c2 := HXv.out.c2
  have c3 := HXv.out.c3
  have c4 := HXv.out.c4
  have c5 := HXv.out.c5
  have c6 := HXv.out.c6
  have c7 := HXv.out.c7
  have c8 := HXv.out.cl
  have c9 := HXv.out.cg
  have cF := HXv.out.f
  have i0 := HIv.out.t.c0
  have i1 := HIv.out.t.c1
  have i2 := HIv.out.t.c2
  have i3 := HIv.out.t.c3
  have iF := HIv.out.f
  go_wp2_with fail
  refine (HV.out s1 V HOv.out.rd).mono ?_; rintro e w2 ⟨rfl, hb2⟩
  have HX2 := Lib.hid (HXv.out.below hb2)
  have HI2 := Lib.hid (HIv.out.below hb2)
  have HY2 := Lib.hid (HYv.out.below hb2)
  have HB2 := Lib.hid (bstep HBv.out hb2)
  have HO2 := Lib.hid (HOv.out.keep hb2)
  clear hb2 c0 c1 c2 c3 c4 c5 c6 c7 c8 c9 cF i0 i1 i2 i3 iF HXv HIv HYv HBv HOv HV
  cases vb
  · have HW := Lib.hid (HW2.out (fun e => by cases e.1))
    have c0 := HX2.out.c0
    have c1 := HX2.out.c1
    have c2 := HX2.out.c2
    have c3 := HX2.out.c3
    have c4 := HX2.out.c4
    have c5 := HX2.out.c5
    have c6 := HX2.out.c6
    have c7 := HX2.out.c7
    have c8 := HX2.out.cl
    have c9 := HX2.out.cg
    have cF := HX2.out.f
    have d0 := HY2.out.c0
    have d1 := HY2.out.c1
    have d2 := HY2.out.c2
    have d3 := HY2.out.c3
    have d4 := HY2.out.c4
    have d5 := HY2.out.c5
    have d6 := HY2.out.c6
    have d7 := HY2.out.c7
    have d8 := HY2.out.cl
    have d9 := HY2.out.cg
    have dF := HY2.out.f
    go_wp2_with fail
    change bodyPost _ _ _ _ _ (putM w2 (w.heap.size + 2) s1 L G)
    have hby := HY2.out.all s1 L G
    have HRq := Lib.hid ((HO2.out.putM (show w.heap.size + 2 < w.heap.size + 3 by omega) s1 L G).mono (show w.heap.size ≤ w.heap.size + 3 by omega))
    have HBz := Lib.hid (putM_below HB2.out (show w.heap.size ≤ w.heap.size + 2 by omega) s1 L G)
    generalize putM w2 (w.heap.size + 2) s1 L G = V9 at *
    exact bodyPost_ret (v := mapV s1 L G) (by simp [results, Tryz.results32, go_sem, hby.c0, hby.c1, hby.c2, hby.c3, hby.c4, hby.c5, hby.c6, hby.c7, hby.cl, hby.cg]) rfl ⟨⟨_, by rw [HW.out], by rw [HW.out]; exact HRq.out⟩, HBz.out⟩
  · skip
    have i0 := HI2.out.t.c0
    have i1 := HI2.out.t.c1
    have i2 := HI2.out.t.c2
    have i3 := HI2.out.t.c3
    have iF := HI2.out.f
    go_wp2_with fail
    refine (HVo.out _ _ (rd_lit1 w2 x _ rfl)).mono ?_; rintro e w3 ⟨rfl, hb3⟩
    have hb23 := bstep (below_box w2 x) hb3
    have HX3 := Lib.hid (HX2.out.below hb23)
    have HI3 := Lib.hid (HI2.out.below hb23)
    have HY3 := Lib.hid (HY2.out.below hb23)
    have HB3 := Lib.hid (bstep HB2.out hb23)
    have HO3 := Lib.hid (HO2.out.keep hb23)
    clear hb3 hb23 i0 i1 i2 i3 iF HX2 HI2 HY2 HB2 HO2
    generalize hob : okB x = ob at *
    cases ob
    · have HW := Lib.hid (HW2.out (fun e => by cases e.2.1))
      have c0 := HX3.out.c0
      have c1 := HX3.out.c1
      have c2 := HX3.out.c2
      have c3 := HX3.out.c3
      have c4 := HX3.out.c4
      have c5 := HX3.out.c5
      have c6 := HX3.out.c6
      have c7 := HX3.out.c7
      have c8 := HX3.out.cl
      have c9 := HX3.out.cg
      have cF := HX3.out.f
      have d0 := HY3.out.c0
      have d1 := HY3.out.c1
      have d2 := HY3.out.c2
      have d3 := HY3.out.c3
      have d4 := HY3.out.c4
      have d5 := HY3.out.c5
      have d6 := HY3.out.c6
      have d7 := HY3.out.c7
      have d8 := HY3.out.cl
      have d9 := HY3.out.cg
      have dF := HY3.out.f
      go_wp2_with fail
      change bodyPost _ _ _ _ _ (putM w3 (w.heap.size + 2) s1 L G)
      have hby := HY3.out.all s1 L G
      have HRq := Lib.hid ((HO3.out.putM (show w.heap.size + 2 < w.heap.size + 3 by omega) s1 L G).mono (show w.heap.size ≤ w.heap.size + 3 by omega))
      have HBz := Lib.hid (putM_below HB3.out (show w.heap.size ≤ w.heap.size + 2 by omega) s1 L G)
      generalize putM w3 (w.heap.size + 2) s1 L G = V9 at *
      exact bodyPost_ret (v := mapV s1 L G) (by simp [results, Tryz.results32, go_sem, hby.c0, hby.c1, hby.c2, hby.c3, hby.c4, hby.c5, hby.c6, hby.c7, hby.cl, hby.cg]) rfl ⟨⟨_, by rw [HW.out], by rw [HW.out]; exact HRq.out⟩, HBz.out⟩
    · obtain ⟨⟨hLs, hL0, hL1⟩, hG0, hG1, hsz, hsk⟩ := HSo.out trivial
      have HSz := Lib.hid hsz
      have HSk := Lib.hid hsk
      have hx0 : 0 ≤ x.size := by
        have : okP x := by unfold okB at hob; exact of_decide_eq_true hob
        exact this.2.2.2.1
      have HX0 := Lib.hid hx0
      clear HSo hsz hsk hx0 hob
      have hlx := lenO_le x
      have HLx := Lib.hid (fun u : BelowBy w3 => lengthN_any x HX0.out u.w')
      have HCt := Lib.hid (fun u : BelowBy w3 => counters_any s1 L G u.w')
      generalize lenO x = n at *
      have hadd := fun W => csum_fb (a := L) (b := G) (c := (n : Int)) (d := 0) hLs (small_of (by omega) (by omega)) (small_of (by omega) (by omega)) (small_of (by omega) (by omega)) (small_of (by omega) (by omega)) (small_of (by omega) (by omega)) 98 W
      have hz : Fx.fb 0 = 0 := rfl
      rw [Int.add_zero, hz] at hadd
      have hfn : floatOfInt .f64 (n : Int) = Fx.fb (n : Int) := rfl
      have c0 := HX3.out.c0
      have c1 := HX3.out.c1
      have c2 := HX3.out.c2
      have c3 := HX3.out.c3
      have c4 := HX3.out.c4
      have c5 := HX3.out.c5
      have c6 := HX3.out.c6
      have c7 := HX3.out.c7
      have c8 := HX3.out.cl
      have c9 := HX3.out.cg
      have cF := HX3.out.f
      have i0 := HI3.out.t.c0
      have i1 := HI3.out.t.c1
      have i2 := HI3.out.t.c2
      have i3 := HI3.out.t.c3
      have iF := HI3.out.f
      go_upto_region 5 with fail
      refine (HS.out _).mono ?_; rintro e w4 ⟨rfl, rfl⟩
      go_upto_region 5 with fail
      have p0 := cell_by c0
      have p1 := cell_by c1
      have p2 := cell_by c2
      have p3 := cell_by c3
      have p4 := cell_by c4
      have p5 := cell_by c5
      have p6 := cell_by c6
      have p7 := cell_by c7
      have p8 := cell_by c8
      have p9 := cell_by c9
      have q0 := cell_by i0
      have q1 := cell_by i1
      have q2 := cell_by i2
      have q3 := cell_by i3
      clear c0 c1 c2 c3 c4 c5 c6 c7 c8 c9 cF i0 i1 i2 i3 iF
      refine wp_region_below (by kernel_rfl) (by kernel_rfl) ?_
      repeat (go_big_quiet_step ((first | exact calls_by (HCt.out _) | exact calls_by (HLx.out _))))
      refine wpQuiet_nil ?_
      intro _ hw'
      obtain ⟨u, hw'⟩ := hw'
      subst hw'
      have HX4 := Lib.hid (HX3.out.below u.h)
      have HI4 := Lib.hid (HI3.out.below u.h)
      have HY4 := Lib.hid (HY3.out.below u.h)
      have HB4 := Lib.hid (bstep HB3.out u.h)
      have HO4 := Lib.hid (HO3.out.keep u.h)
      generalize u.w' = w4 at *
      clear p0 p1 p2 p3 p4 p5 p6 p7 p8 p9 q0 q1 q2 q3 HCt HLx hadd hz hfn HX3 HI3 HY3 HB3 HO3
      have hvk : s1.v k = .slice (s1.a k) (s1.n k) (s1.c k) := rfl
      have ck := HX4.out.c k hk8
      have HFk := Lib.hid (fun W (hb : Below w4.heap.size w4 W) => HFd.out _ W ((HO4.out k hk8).rd.below hb))
      rw [HSk.out, HFn.out] at HFk
      rw [hvk] at ck HFk
      clear hvk
      have i0 := HI4.out.t.c0
      have i1 := HI4.out.t.c1
      have i2 := HI4.out.t.c2
      have i3 := HI4.out.t.c3
      have iF := HI4.out.f
      have hb0 : w.heap.size < w4.heap.size := HX4.out.lt
      have hb1 : w.heap.size + 1 < w4.heap.size := HI4.out.lt
      have hb2 : w.heap.size + 2 < w4.heap.size := HY4.out.lt
      go_upto_region 6 with fail
      go_cut [7, 8] (fun s7 s8 wx => s8 = .bool o.isSome ∧ ∃ j, s7 = .pointer (some ⟨j, 0, none⟩) ∧ BoxI wx j (o.getD it0) ∧ Below w4.heap.size w4 wx)
      case first =>
        have HA0 := Lib.hid (show Below w4.heap.size w4 w4.drew from below_drew (Below.refl _ _))
        have HA1 := Lib.hid (show Below w4.heap.size w4 (w4.alloc (boxC it0)).drew from below_drew (below_box w4 it0))
        have HZ := Lib.hid (show BoxI (w4.alloc (boxC it0)).drew w4.heap.size it0 from ⟨⟨(BoxT.new w4 it0).c0, (BoxT.new w4 it0).c1, (BoxT.new w4 it0).c2, (BoxT.new w4 it0).c3⟩, (BoxI.new w4 it0).f⟩)
        have HFa := Lib.hid (HFk.out _ HA0.out)
        have HFb := Lib.hid (show Calls Tryz.prog 64 #[.slice (s1.a k) (s1.n k) (s1.c k), .int .u64 x.key] (w4.alloc (.cells #[.int .u64 0, .int .u32 0, .int .i64 0, .int .i64 0] 77)).drew _ from HFk.out _ HA1.out)
        clear HS Hr HPt HFd HMem HFn HVo HSz HSk HX0 HW1 HW2 HX4 HI4 HY4 HB4 HO4 HFk i1 i2 i3 iF hLs hL0 hL1 hG0 hG1 hlx hs0
        go_region_with (first | (go_at_call 64; (with_reducible refine HFa.out.mono ?_); rintro e w5 ⟨rfl, hb5⟩; have hc5 := bstep HA0.out hb5) | (go_at_call 64; (with_reducible refine HFb.out.mono ?_); rintro e w5 ⟨rfl, hb5⟩; have hz5 := HZ.out.below hb5; have hc5 := bstep HA1.out hb5; have z0 := hz5.t.c0; have z1 := hz5.t.c1; have z2 := hz5.t.c2; have z3 := hz5.t.c3; have zF := hz5.f))
        all_goals
          clear HA0 HA1 HZ HFa HFb ck i0 hb0 hb1 hb2
          go_wp2_with fail
          go_meet
          case rel => first | exact ⟨rfl, _, rfl, BoxI.new w5 _, bstep hc5 (below_box w5 _)⟩ | exact ⟨rfl, _, rfl, hz5.put _, putI_below hc5 (Nat.le_refl _) _⟩
      case rest =>
        obtain ⟨rfl, j, rfl, hI6, hb6⟩ := hcut
        have HX6 := Lib.hid (HX4.out.below hb6)
        have HI6 := Lib.hid (HI4.out.below hb6)
        have HY6 := Lib.hid (HY4.out.below hb6)
        have HB6 := Lib.hid (bstep HB4.out hb6)
        have HO6 := Lib.hid (HO4.out.keep hb6)
        have HJ6 := Lib.hid hI6
        clear hb6 hI6 HX4 HI4 HY4 HB4 HO4 HFk ck i0 i1 i2 i3 iF hb0 hb1 hb2
        have hd4 : szO o ≤ 4127 := by cases o with
          | none => exact Nat.zero_le _
          | some y => exact szN_le _
        generalize hV6 : wc = V6 at *
        clear hV6
        go_upto_if 41 with fail
        go_cut [6] (fun s wx => s = .complex .f64 (Fx.fb (L + (n : Int) - (szO o : Int))) (Fx.fb (G + (szO o : Int))) ∧ Below V6.heap.size V6 wx)
        case first =>
          cases o with
          | none =>
            have e1 : L + (n : Int) - ((szO none : Nat) : Int) = L + (n : Int) := by show L + (n : Int) - ((0 : Nat) : Int) = _; omega
            have e2 : G + ((szO none : Nat) : Int) = G := by show G + ((0 : Nat) : Int) = _; omega
            go_wp2_with fail
            go_meet
            case rel => exact ⟨by rw [e1, e2], Below.refl _ _⟩
          | some y =>
            have hy0 := HSz.out y (HMem.out y rfl)
            have HLy := Lib.hid (fun W => lengthN_any y hy0 W)
            have HTy := Lib.hid (fun W => turned_any (lenO y) (by have := lenO_le y; omega) W)
            have e1 : szO (some y) = lenO y := rfl
            rw [e1] at hd4
            have E1 := Lib.hid e1
            clear e1 hy0
            generalize lenO y = d at *
            have hadd := fun W => csum_fb (a := L + (n : Int)) (b := G) (c := -(d : Int)) (d := (d : Int)) (small_of (by omega) (by omega)) (small_of (by omega) (by omega)) (small_of (by omega) (by omega)) (small_of (by omega) (by omega)) (small_of (by omega) (by omega)) (small_of (by omega) (by omega)) 98 W
            rw [show L + (n : Int) + -(d : Int) = L + (n : Int) - (d : Int) by omega] at hadd
            have hj6 := HJ6.out
            rw [show (some y).getD it0 = y from rfl] at hj6
            have i0 := hj6.t.c0
            have i1 := hj6.t.c1
            have i2 := hj6.t.c2
            have i3 := hj6.t.c3
            have iF := hj6.f
            clear hj6
            go_wp2_with fail
            refine (HLy.out _).mono ?_; rintro e w7 ⟨rfl, hb7⟩
            go_wp2_with fail
            refine (HTy.out _).mono ?_; rintro e w8 ⟨rfl, hb8⟩
            have HBz := Lib.hid (bstep hb7 hb8)
            clear hb7 hb8 i0 i1 i2 i3 iF
            go_wp2_with fail
            go_meet
            case rel => exact ⟨by rw [E1.out], HBz.out⟩
        case rest =>
          obtain ⟨rfl, hb7⟩ := hcut
          have HX7 := Lib.hid (HX6.out.below hb7)
          have HI7 := Lib.hid (HI6.out.below hb7)
          have HY7 := Lib.hid (HY6.out.below hb7)
          have HB7 := Lib.hid (bstep HB6.out hb7)
          have HO7 := Lib.hid (HO6.out.keep hb7)
          clear hb7 HX6 HI6 HY6 HB6 HO6 HJ6
          generalize hV7 : wc = V7 at *
          clear hV7
          generalize szO o = d at *
          have hgt := ord_gt (a := G + (d : Int)) (b := 1099511627776) (small_of (by omega) (by omega)) (small_of (by omega) (by omega))
          rw [show Fx.fb 1099511627776 = 4787326403894837248 from rfl] at hgt
          by_cases hgo : G + (d : Int) ≤ 1099511627776
          · have HW := Lib.hid (HW1.out ⟨trivial, trivial, hgo⟩)
            rw [decide_eq_false (show ¬ (1099511627776 < G + (d : Int)) by omega)] at hgt
            have HWi := Lib.hid (fun s W => with_any s L G (L + (n : Int) - (d : Int)) (G + (d : Int)) (small_of (by omega) (by omega)) (small_of (by omega) (by omega)) W)
            have hvk : s1.v k = .slice (s1.a k) (s1.n k) (s1.c k) := rfl
            have ck := HX7.out.c k hk8
            have HPk := Lib.hid (HPt.out _ V7.drew ((HO7.out k hk8).rd.below (below_drew (Below.refl _ _))))
            rw [HSk.out] at HPk
            rw [hvk] at ck HPk
            have hvx : itV x = .agg #[.int .u64 x.key, .int .u32 x.ck, .int .i64 x.off, .int .i64 x.size] := rfl
            rw [hvx] at HPk
            have HVx := Lib.hid hvx
            clear hvk hvx
            have i0 := HI7.out.t.c0
            have i1 := HI7.out.t.c1
            have i2 := HI7.out.t.c2
            have i3 := HI7.out.t.c3
            have iF := HI7.out.f
            have HCk := Lib.hid (fun w8 (hb : Below V7.drew.heap.size V7.drew w8) => (HX7.out.below (bstep (below_drew (Below.refl _ _)) hb)).c k hk8)
            have HFk := Lib.hid (fun w8 (hb : Below V7.drew.heap.size V7.drew w8) => (HX7.out.below (bstep (below_drew (Below.refl _ _)) hb)).f k)
            rw [show s1.v k = .slice (s1.a k) (s1.n k) (s1.c k) from rfl] at HCk
            go_upto_region 11 with fail
            go_region_with (go_at_call 65; (with_reducible refine HPk.out.mono ?_); rintro e w8 ⟨v8, rfl, hown8, hb8⟩; obtain ⟨va, vc, hv8, _⟩ := own_form hown8; subst hv8; have ck8 := HCk.out w8 hb8; have fk8 := HFk.out w8 hb8)
            all_goals
              clear ck8 fk8 ck i0 i1 i2 i3 iF HCk HFk HPk HVx
              have hb9 := bstep (below_drew (Below.refl V7.heap.size V7)) hb8
              have HX8 := Lib.hid (HX7.out.below hb9)
              have HY8 := Lib.hid (HY7.out.below hb9)
              have HB8 := Lib.hid (bstep HB7.out hb9)
              have HO8 := Lib.hid (HO7.out.keep hb9)
              have HN8 := Lib.hid (hown8.mono (show w.heap.size + 3 ≤ V7.drew.heap.size from HY7.out.lt))
              clear hown8 hb8 hb9 HX7 HY7 HB7 HO7 HI7
              generalize (ins (f k) x).length = dn at *
              obtain ⟨V9, hV9⟩ : ∃ V9, w8.setCell ⟨w.heap.size, k, none⟩ (.slice va dn vc) = V9 := ⟨_, rfl⟩
              have HX9 := Lib.hid (show BoxM V9 w.heap.size (s1.set k va dn vc) L G from hV9 ▸ HX8.out.setS hk8 va dn vc)
              have HY9 := Lib.hid (show BoxM V9 (w.heap.size + 2) Sl.nil 0 0 from hV9 ▸ HY8.out.set_ne (p := ⟨w.heap.size, k, none⟩) (show w.heap.size ≠ w.heap.size + 2 by omega) _)
              have HB9 := Lib.hid (show Below w.heap.size w V9 from hV9 ▸ HB8.out.setCell (p := ⟨w.heap.size, k, none⟩) (Nat.le_refl _) _)
              have HO9 := Lib.hid (show OwnM V9 (w.heap.size + 3) (s1.set k va dn vc) (fun i => if i = k then ins (f k) x else f i) from hV9 ▸ OwnM.set (fun i hi => own_set_lo (HO8.out i hi) (p := ⟨w.heap.size, k, none⟩) (show w.heap.size < w.heap.size + 3 by omega) _) (show OwnT _ _ _ (ins (f k) x) from ownT_of (own_set_lo HN8.out (p := ⟨w.heap.size, k, none⟩) (show w.heap.size < w.heap.size + 3 by omega) _) rfl))
              rw [hV9]
              clear hV9 HX8 HY8 HB8 HO8 HN8
              have hfe : (fun i => if i = k then ins (f k) x else f i) = (fun i => if i = k then ins (f i) x else f i) := funext fun i => by
                by_cases e : i = k
                · rw [if_pos e, if_pos e, e]
                · rw [if_neg e, if_neg e]
              rw [hfe] at HO9
              clear hfe
              generalize s1.set k va dn vc = s2 at *
              have c0 := HX9.out.c0
              have c1 := HX9.out.c1
              have c2 := HX9.out.c2
              have c3 := HX9.out.c3
              have c4 := HX9.out.c4
              have c5 := HX9.out.c5
              have c6 := HX9.out.c6
              have c7 := HX9.out.c7
              have c8 := HX9.out.cl
              have c9 := HX9.out.cg
              have cF := HX9.out.f
              go_wp2_with fail
              refine (HWi.out s2 V9).mono ?_; rintro e w6 ⟨rfl, hb6⟩
              have HX10 := Lib.hid (HX9.out.below hb6)
              have HY10 := Lib.hid (HY9.out.below hb6)
              have HB10 := Lib.hid (bstep HB9.out hb6)
              have HO10 := Lib.hid (HO9.out.keep hb6)
              clear hb6 c0 c1 c2 c3 c4 c5 c6 c7 c8 c9 cF
              generalize L + (n : Int) - (d : Int) = L2 at *
              generalize G + (d : Int) = G2 at *
              have c0 := HX10.out.c0
              have c1 := HX10.out.c1
              have c2 := HX10.out.c2
              have c3 := HX10.out.c3
              have c4 := HX10.out.c4
              have c5 := HX10.out.c5
              have c6 := HX10.out.c6
              have c7 := HX10.out.c7
              have c8 := HX10.out.cl
              have c9 := HX10.out.cg
              have cF := HX10.out.f
              have d0 := HY10.out.c0
              have d1 := HY10.out.c1
              have d2 := HY10.out.c2
              have d3 := HY10.out.c3
              have d4 := HY10.out.c4
              have d5 := HY10.out.c5
              have d6 := HY10.out.c6
              have d7 := HY10.out.c7
              have d8 := HY10.out.cl
              have d9 := HY10.out.cg
              have dF := HY10.out.f
              go_wp2_with fail
              change bodyPost _ _ _ _ _ (putM w6 (w.heap.size + 2) s2 L2 G2)
              have hby := HY10.out.all s2 L2 G2
              have HRq := Lib.hid ((HO10.out.putM (show w.heap.size + 2 < w.heap.size + 3 by omega) s2 L2 G2).mono (show w.heap.size ≤ w.heap.size + 3 by omega))
              have HBz := Lib.hid (putM_below HB10.out (show w.heap.size ≤ w.heap.size + 2 by omega) s2 L2 G2)
              generalize putM w6 (w.heap.size + 2) s2 L2 G2 = V9 at *
              exact bodyPost_ret (v := mapV s2 L2 G2) (by simp [results, Tryz.results32, go_sem, hby.c0, hby.c1, hby.c2, hby.c3, hby.c4, hby.c5, hby.c6, hby.c7, hby.cl, hby.cg]) rfl ⟨⟨_, by rw [HW.out], by rw [HW.out]; exact HRq.out⟩, HBz.out⟩
          · have HW := Lib.hid (HW2.out (fun e => hgo e.2.2))
            rw [decide_eq_true (show 1099511627776 < G + (d : Int) by omega)] at hgt
            have c0 := HX7.out.c0
            have c1 := HX7.out.c1
            have c2 := HX7.out.c2
            have c3 := HX7.out.c3
            have c4 := HX7.out.c4
            have c5 := HX7.out.c5
            have c6 := HX7.out.c6
            have c7 := HX7.out.c7
            have c8 := HX7.out.cl
            have c9 := HX7.out.cg
            have cF := HX7.out.f
            have d0 := HY7.out.c0
            have d1 := HY7.out.c1
            have d2 := HY7.out.c2
            have d3 := HY7.out.c3
            have d4 := HY7.out.c4
            have d5 := HY7.out.c5
            have d6 := HY7.out.c6
            have d7 := HY7.out.c7
            have d8 := HY7.out.cl
            have d9 := HY7.out.cg
            have dF := HY7.out.f
            go_wp2_with fail
            change bodyPost _ _ _ _ _ (putM V7 (w.heap.size + 2) s1 L G)
            have hby := HY7.out.all s1 L G
            have HRq := Lib.hid ((HO7.out.putM (show w.heap.size + 2 < w.heap.size + 3 by omega) s1 L G).mono (show w.heap.size ≤ w.heap.size + 3 by omega))
            have HBz := Lib.hid (putM_below HB7.out (show w.heap.size ≤ w.heap.size + 2 by omega) s1 L G)
            generalize putM V7 (w.heap.size + 2) s1 L G = V9 at *
            exact bodyPost_ret (v := mapV s1 L G) (by simp [results, Tryz.results32, go_sem, hby.c0, hby.c1, hby.c2, hby.c3, hby.c4, hby.c5, hby.c6, hby.c7, hby.cl, hby.cg]) rfl ⟨⟨_, by rw [HW.out], by rw [HW.out]; exact HRq.out⟩, HBz.out⟩
end Go.Proofs.YtenkeodfijladaaGreatDoor
