/- Several texts in one, each over the last: The needle map's Waste: the walk. The needle map's Delete: the walk. -/
import Derived.Test.YtndhjfmdfcpceaaMi
import Derived.Test.YtndhjfmdfcpceaaQt
import Derived.Test.YtndhjfmdfcpceaaPu
namespace Go.Proofs.Ytndhjfmdfcpceaa
open Go.RowKit

def wasteM (M : Mp) (n : Int) : Mp := if vldM M = true ∧ 0 ≤ n ∧ n ≤ 1099511627776 - M.garb then ⟨M.st, M.live, M.garb + n⟩ else M
theorem live_small {M : Mp} (h : VldM M) (hs : ∀ i, i < 8 → (M.st i).length ≤ 10000) : Fx.Small M.live ∧ 0 ≤ M.live ∧ M.live ≤ 400000000 := by
  have h1 := allM_len hs
  have h2 := sumI_le (allM M)
  have h3 := h.lv
  have : (allM M).length * 4127 ≤ 80000 * 4127 := Nat.mul_le_mul_right _ h1
  unfold Fx.Small
  rw [Fx.p53]
  omega
theorem small_of {a : Int} (h1 : -9007199254740991 ≤ a) (h2 : a ≤ 9007199254740991) : Fx.Small a := by
  unfold Fx.Small; rw [Fx.p53]; omega
theorem csum_fb {a b c d : Int} (ha : Fx.Small a) (hb : Fx.Small b) (hc : Fx.Small c) (hd : Fx.Small d) (hac : Fx.Small (a + c)) (hbd : Fx.Small (b + d)) (t : TypeId) (W : World) :
    (binOp .add t (.complex .f64 (Fx.fb a) (Fx.fb b)) (.complex .f64 (Fx.fb c) (Fx.fb d))).run Try.prog W = .ok (.complex .f64 (Fx.fb (a + c)) (Fx.fb (b + d))) W :=
  run_complex_sum W .add (.inl rfl) t .f64 _ _ _ _ _ _ (by
    unfold cSumBits floatBits
    show ((FloatKind.f64.format.add _ _).bind _) = _
    rw [show FloatKind.f64.format.add (Fx.fb a) (Fx.fb c) = some (Fx.fb (a + c)) from Fx.add_fb a c ha hc hac, show FloatKind.f64.format.add (Fx.fb b) (Fx.fb d) = some (Fx.fb (b + d)) from Fx.add_fb b d hb hd hbd]
    rfl)
set_option maxRecDepth 100000 in
set_option maxHeartbeats 8000000 in
theorem wasteM_any (s : Sl) (M : Mp) (n : Int) (w : World) (h : RdM w s M.st) (hs : ∀ i, i < 8 → (M.st i).length ≤ 10000) :
    Calls Try.prog 20 #[mapV s M.live M.garb, .int .i64 n] w fun e w' => (∃ s', e = .returned (mapV s' (wasteM M n).live (wasteM M n).garb) ∧ OwnM w' w.heap.size s' (wasteM M n).st) ∧ Below w.heap.size w w' := by
  have HV := Lib.hid (fun s W h => validM_any s M W h (fun i hi => Nat.le_trans (hs i hi) (by decide)))
  have HBx := Lib.hid ((BoxM.new w s M.live M.garb 37).below (below_map (w.alloc (.cells (mapC s M.live M.garb) 37)) Sl.nil 0 0 37))
  have HBy := Lib.hid (BoxM.new (w.alloc (.cells (mapC s M.live M.garb) 37)) Sl.nil 0 0 37)
  have HB0 := Lib.hid (bstep (below_map w s M.live M.garb 37) (below_map (w.alloc (.cells (mapC s M.live M.garb) 37)) Sl.nil 0 0 37))
  rw [show (w.alloc (.cells (mapC s M.live M.garb) 37)).heap.size = w.heap.size + 1 by simp] at HBy
  have HC := Lib.hid (fun W h => cloneM_any s M.live M.garb M.st W h (fun i hi => Nat.le_trans (hs i hi) (by decide)))
  have Hr := Lib.hid h
  have HVl := Lib.hid (fun hv : vldM M = true => (⟨live_small ((vldM_iff M).1 hv) hs, ((vldM_iff M).1 hv).g0, ((vldM_iff M).1 hv).g1⟩ : _ ∧ _ ∧ _))
  have HW := Lib.hid (show wasteM M n = if vldM M = true ∧ 0 ≤ n ∧ n ≤ 1099511627776 - M.garb then ⟨M.st, M.live, M.garb + n⟩ else M from rfl)
  clear h hs
  generalize vldM M = vb at *
  generalize wasteM M n = WM at *
  obtain ⟨f, L, G⟩ := M
  dsimp only at *
  go_enter Try.func20, Try.ntmps20
  go_wp2_with fail
  refine (HC.out _ (Hr.out.below HB0.out)).mono ?_; rintro e w1 ⟨⟨s1, rfl, hown1⟩, hb1⟩
  have HX1 := Lib.hid (HBx.out.below hb1)
  have HY1 := Lib.hid (HBy.out.below hb1)
  have HB1 := Lib.hid (bstep HB0.out hb1)
  have HO1 := Lib.hid (hown1.mono (show w.heap.size + 2 ≤ _ by simp))
  have c0 := HX1.out.c0
  have c1 := HX1.out.c1
  have c2 := HX1.out.c2
  have c3 := HX1.out.c3
  have c4 := HX1.out.c4
  have c5 := HX1.out.c5
  have c6 := HX1.out.c6
  have c7 := HX1.out.c7
  have c8 := HX1.out.cl
  have c9 := HX1.out.cg
  have cF := HX1.out.f
  clear hown1 hb1 HC HBx HBy HB0
  go_upto_region 2 with fail
  change Code.wp _ _ _ _ (putM w1 w.heap.size s1 L G)
  obtain ⟨V, hV⟩ : ∃ V, putM w1 w.heap.size s1 L G = V := ⟨_, rfl⟩
  have HXv := Lib.hid (show BoxM V w.heap.size s1 L G from hV ▸ HX1.out.all s1 L G)
  have HYv := Lib.hid (show BoxM V (w.heap.size + 1) Sl.nil 0 0 from hV ▸ HY1.out.putM_ne (by omega) s1 L G)
  have HBv := Lib.hid (show Below w.heap.size w V from hV ▸ putM_below HB1.out (Nat.le_refl _) s1 L G)
  have HOv := Lib.hid (show OwnM V (w.heap.size + 2) s1 f from hV ▸ HO1.out.putM (by omega) s1 L G)
  rw [hV]
  clear hV c0 c1 c2 c3 c4 c5 c6 c7 c8 c9 cF HX1 HY1 HB1 HO1
  have c0 := HXv.out.c0
  have c1 := HXv.out.c1
  have c2 := HXv.out.c2
  have c3 := HXv.out.c3
  have c4 := HXv.out.c4
  have c5 := HXv.out.c5
  have c6 := HXv.out.c6
  have c7 := HXv.out.c7
  have c8 := HXv.out.cl
  have c9 := HXv.out.cg
  have cF := HXv.out.f
  go_wp2_with fail
  refine (HV.out s1 V HOv.out.rd).mono ?_; rintro e w2 ⟨rfl, hb2⟩
  have HX2 := Lib.hid (HXv.out.below hb2)
  have HY2 := Lib.hid (HYv.out.below hb2)
  have HB2 := Lib.hid (bstep HBv.out hb2)
  have HO2 := Lib.hid (HOv.out.keep hb2)
  clear hb2 c0 c1 c2 c3 c4 c5 c6 c7 c8 c9 cF HXv HYv HBv HOv HV
  have c0 := HX2.out.c0
  have c1 := HX2.out.c1
  have c2 := HX2.out.c2
  have c3 := HX2.out.c3
  have c4 := HX2.out.c4
  have c5 := HX2.out.c5
  have c6 := HX2.out.c6
  have c7 := HX2.out.c7
  have c8 := HX2.out.cl
  have c9 := HX2.out.cg
  have cF := HX2.out.f
  have d0 := HY2.out.c0
  have d1 := HY2.out.c1
  have d2 := HY2.out.c2
  have d3 := HY2.out.c3
  have d4 := HY2.out.c4
  have d5 := HY2.out.c5
  have d6 := HY2.out.c6
  have d7 := HY2.out.c7
  have d8 := HY2.out.cl
  have d9 := HY2.out.cg
  have dF := HY2.out.f
  by_cases hok : vb = true ∧ 0 ≤ n ∧ n ≤ 1099511627776 - G
  · rw [if_pos hok] at HW
    obtain ⟨rfl, h1, h2⟩ := hok
    obtain ⟨⟨hLs, hL0, hL1⟩, hG0, hG1⟩ := HVl.out rfl
    have g1 : decide (n < 0) = false := by simp; omega
    have j1 : IntKind.i64.wrap (1099511627776 - G) = 1099511627776 - G := IntWalk.i64_in _ (by omega)
    have g2 : decide (1099511627776 - G < n) = false := by simp; omega
    have HCt := Lib.hid (fun u : BelowBy w2 => counters_any s1 L G u.w')
    have HWi := Lib.hid (fun W => with_any s1 L G L (G + n) hLs (small_of (by omega) (by omega)) W)
    have hadd := fun W => csum_fb (a := L) (b := G) (c := 0) (d := n) hLs (small_of (by omega) (by omega)) (small_of (by omega) (by omega)) (small_of (by omega) (by omega)) (by rw [Int.add_zero]; exact hLs) (small_of (by omega) (by omega)) 71 W
    have hz : Fx.fb 0 = 0 := rfl
    rw [Int.add_zero, hz] at hadd
    have hfn : floatOfInt .f64 n = Fx.fb n := rfl
    have e0 := HX2.out.c0
    have e1 := HX2.out.c1
    have e2 := HX2.out.c2
    have e3 := HX2.out.c3
    have e4 := HX2.out.c4
    have e5 := HX2.out.c5
    have e6 := HX2.out.c6
    have e7 := HX2.out.c7
    have e8 := HX2.out.cl
    have e9 := HX2.out.cg
    have eF := HX2.out.f
    go_wp2_with fail
    have f0 := cell_by e0
    have f1 := cell_by e1
    have f2 := cell_by e2
    have f3 := cell_by e3
    have f4 := cell_by e4
    have f5 := cell_by e5
    have f6 := cell_by e6
    have f7 := cell_by e7
    have f8 := cell_by e8
    have f9 := cell_by e9
    refine wp_region_below_tail 7 (by kernel_rfl) (by kernel_rfl) ?_
    simp only [List.take_succ_cons, List.take_zero, List.drop_succ_cons, List.drop_zero]
    repeat (go_big_quiet_step (exact calls_by (HCt.out _)))
    refine wpQuiet_nil ?_
    intro _ hw'
    obtain ⟨u, hw'⟩ := hw'
    subst hw'
    have HYu := Lib.hid (HY2.out.below u.h)
    have HBu := Lib.hid (bstep HB2.out u.h)
    have HOu := Lib.hid (HO2.out.keep u.h)
    generalize u.w' = w3 at *
    clear c0 c1 c2 c3 c4 c5 c6 c7 c8 c9 cF d0 d1 d2 d3 d4 d5 d6 d7 d8 d9 dF e0 e1 e2 e3 e4 e5 e6 e7 e8 e9 eF f0 f1 f2 f3 f4 f5 f6 f7 f8 f9 hadd
    go_wp2_with fail
    refine (HWi.out _).mono ?_; rintro e w4 ⟨rfl, hb4⟩
    have HY4 := Lib.hid (HYu.out.below hb4)
    have HB4 := Lib.hid (bstep HBu.out hb4)
    have HO4 := Lib.hid (HOu.out.keep hb4)
    clear hb4
    have d0 := HY4.out.c0
    have d1 := HY4.out.c1
    have d2 := HY4.out.c2
    have d3 := HY4.out.c3
    have d4 := HY4.out.c4
    have d5 := HY4.out.c5
    have d6 := HY4.out.c6
    have d7 := HY4.out.c7
    have d8 := HY4.out.cl
    have d9 := HY4.out.cg
    have dF := HY4.out.f
    go_wp2_with fail
    change bodyPost _ _ _ _ _ (putM w4 (w.heap.size + 1) s1 L (G + n))
    have hby := HY4.out.all s1 L (G + n)
    have HRq := Lib.hid ((HO4.out.putM (show w.heap.size + 1 < w.heap.size + 2 by omega) s1 L (G + n)).mono (show w.heap.size ≤ w.heap.size + 2 by omega))
    have HBz := Lib.hid (putM_below HB4.out (Nat.le_succ _) s1 L (G + n))
    generalize putM w4 (w.heap.size + 1) s1 L (G + n) = V2 at *
    exact bodyPost_ret (v := mapV s1 L (G + n)) (by simp [results, Try.results20, go_sem, hby.c0, hby.c1, hby.c2, hby.c3, hby.c4, hby.c5, hby.c6, hby.c7, hby.cl, hby.cg]) rfl ⟨⟨s1, by rw [HW.out], by rw [HW.out]; exact HRq.out⟩, HBz.out⟩
  · rw [if_neg hok] at HW
    cases vb
    · clear hok
      go_wp2_with fail
      change bodyPost _ _ _ _ _ (putM w2 (w.heap.size + 1) s1 L G)
      have hby := HY2.out.all s1 L G
      have HRq := Lib.hid ((HO2.out.putM (show w.heap.size + 1 < w.heap.size + 2 by omega) s1 L G).mono (show w.heap.size ≤ w.heap.size + 2 by omega))
      have HBz := Lib.hid (putM_below HB2.out (Nat.le_succ _) s1 L G)
      generalize putM w2 (w.heap.size + 1) s1 L G = V2 at *
      exact bodyPost_ret (v := mapV s1 L G) (by simp [results, Try.results20, go_sem, hby.c0, hby.c1, hby.c2, hby.c3, hby.c4, hby.c5, hby.c6, hby.c7, hby.cl, hby.cg]) rfl ⟨⟨s1, by rw [HW.out], by rw [HW.out]; exact HRq.out⟩, HBz.out⟩
    · by_cases h1 : n < 0
      · have g1 : decide (n < 0) = true := by simpa using h1
        clear hok
        go_wp2_with fail
        change bodyPost _ _ _ _ _ (putM w2 (w.heap.size + 1) s1 L G)
        have hby := HY2.out.all s1 L G
        have HRq := Lib.hid ((HO2.out.putM (show w.heap.size + 1 < w.heap.size + 2 by omega) s1 L G).mono (show w.heap.size ≤ w.heap.size + 2 by omega))
        have HBz := Lib.hid (putM_below HB2.out (Nat.le_succ _) s1 L G)
        generalize putM w2 (w.heap.size + 1) s1 L G = V2 at *
        exact bodyPost_ret (v := mapV s1 L G) (by simp [results, Try.results20, go_sem, hby.c0, hby.c1, hby.c2, hby.c3, hby.c4, hby.c5, hby.c6, hby.c7, hby.cl, hby.cg]) rfl ⟨⟨s1, by rw [HW.out], by rw [HW.out]; exact HRq.out⟩, HBz.out⟩
      · have g1 : decide (n < 0) = false := by simpa using h1
        obtain ⟨_, hG0, hG1⟩ := HVl.out rfl
        have j1 : IntKind.i64.wrap (1099511627776 - G) = 1099511627776 - G := IntWalk.i64_in _ (by omega)
        have g2 : decide (1099511627776 - G < n) = true := by
          have : ¬ n ≤ 1099511627776 - G := fun e => hok ⟨rfl, by omega, e⟩
          simp; omega
        clear hok
        go_wp2_with fail
        change bodyPost _ _ _ _ _ (putM w2 (w.heap.size + 1) s1 L G)
        have hby := HY2.out.all s1 L G
        have HRq := Lib.hid ((HO2.out.putM (show w.heap.size + 1 < w.heap.size + 2 by omega) s1 L G).mono (show w.heap.size ≤ w.heap.size + 2 by omega))
        have HBz := Lib.hid (putM_below HB2.out (Nat.le_succ _) s1 L G)
        generalize putM w2 (w.heap.size + 1) s1 L G = V2 at *
        exact bodyPost_ret (v := mapV s1 L G) (by simp [results, Try.results20, go_sem, hby.c0, hby.c1, hby.c2, hby.c3, hby.c4, hby.c5, hby.c6, hby.c7, hby.cl, hby.cg]) rfl ⟨⟨s1, by rw [HW.out], by rw [HW.out]; exact HRq.out⟩, HBz.out⟩
end Go.Proofs.Ytndhjfmdfcpceaa

namespace Go.Proofs.Ytndhjfmdfcpceaa
open Go.RowKit

def lenO (y : It) : Nat := szN y.size.toNat
def delM (M : Mp) (key : Int) : Mp :=
  match getM M key with
  | none => M
  | some y => if M.garb + (lenO y : Int) ≤ 1099511627776 then ⟨fun i => if i = strp key then drp (M.st i) key else M.st i, M.live - (lenO y : Int), M.garb + (lenO y : Int)⟩ else M
theorem lengthN_any (y : It) (hy : 0 ≤ y.size) (w : World) : Calls Try.prog 42 #[itV y] w fun e w' => e = .returned (.int .i64 (lenO y : Int)) ∧ Below w.heap.size w w' :=
  (length_any y w).mono fun e w' ⟨⟨n, he, _, h⟩, hb⟩ => ⟨by rw [he, h hy]; rfl, hb⟩
theorem ord_gt {a b : Int} (ha : Fx.Small a) (hb : Fx.Small b) : (FloatKind.f64.format.order (Fx.fb a) (Fx.fb b) == some Ordering.gt) = decide (b < a) := by
  have h : FloatKind.f64.format.order (Fx.fb a) (Fx.fb b) = some (compare a b) := Fx.order_fb a b ha hb
  rw [h]
  show (some (compareOfLessAndEq a b) == some Ordering.gt) = _
  unfold compareOfLessAndEq
  by_cases h1 : a < b
  · rw [if_pos h1, decide_eq_false (by omega)]; rfl
  · rw [if_neg h1]
    by_cases h2 : a = b
    · rw [if_pos h2, decide_eq_false (by omega)]; rfl
    · rw [if_neg h2, decide_eq_true (by omega)]; rfl
theorem getM_some {M : Mp} {key : Int} {y : It} (h : getM M key = some y) : vldM M = true ∧ y ∈ M.st (strp key) ∧ y.key = key ∧ 0 ≤ y.size := by
  unfold getM at h
  split at h
  · rename_i hv
    obtain ⟨h1, h2⟩ := fnd_some_mem h
    exact ⟨hv, h1, h2, vld_size (((vldM_iff M).1 hv).ok _ (strp_lt key)) y h1⟩
  · cases h
theorem lenO_le (y : It) : lenO y ≤ 4127 := szN_le _
set_option maxRecDepth 100000 in
set_option maxHeartbeats 8000000 in
theorem deleteM_any (s : Sl) (M : Mp) (key : Int) (w : World) (h : RdM w s M.st) (hs : ∀ i, i < 8 → (M.st i).length ≤ 10000) :
    Calls Try.prog 18 #[mapV s M.live M.garb, .int .u64 key] w fun e w' => (∃ s', e = .returned (mapV s' (delM M key).live (delM M key).garb) ∧ OwnM w' w.heap.size s' (delM M key).st) ∧ Below w.heap.size w w' := by
  have HG := Lib.hid (fun s W h => getM_any s M key W h hs)
  have HBx := Lib.hid ((BoxM.new w s M.live M.garb 37).below (below_map (w.alloc (.cells (mapC s M.live M.garb) 37)) Sl.nil 0 0 37))
  have HBy := Lib.hid (BoxM.new (w.alloc (.cells (mapC s M.live M.garb) 37)) Sl.nil 0 0 37)
  have HB0 := Lib.hid (bstep (below_map w s M.live M.garb 37) (below_map (w.alloc (.cells (mapC s M.live M.garb) 37)) Sl.nil 0 0 37))
  rw [show (w.alloc (.cells (mapC s M.live M.garb) 37)).heap.size = w.heap.size + 1 by simp] at HBy
  have HC := Lib.hid (fun W h => cloneM_any s M.live M.garb M.st W h (fun i hi => Nat.le_trans (hs i hi) (by decide)))
  have Hr := Lib.hid h
  have hk8 := strp_lt key
  have HS := Lib.hid (fun W => stripe_any key W)
  have HSo := Lib.hid (fun y (hy : getM M key = some y) => (⟨live_small ((vldM_iff M).1 (getM_some hy).1) hs, ((vldM_iff M).1 (getM_some hy).1).g0, ((vldM_iff M).1 (getM_some hy).1).g1, (getM_some hy).2.2.2, srt_of_asc (vld_asc (((vldM_iff M).1 (getM_some hy).1).ok _ hk8))⟩ : _ ∧ _ ∧ _ ∧ _ ∧ _))
  have HDr := Lib.hid (fun v W h => drop_any v (M.st (strp key)) key W h (sorted_all _ (Nat.le_trans (hs _ hk8) (by decide))) (Nat.le_trans (hs _ hk8) (by decide)))
  have HW0 := Lib.hid (show getM M key = none → delM M key = M from fun h => by unfold delM; rw [h])
  have HW1 := Lib.hid (show ∀ y, getM M key = some y → M.garb + (lenO y : Int) ≤ 1099511627776 → delM M key = ⟨fun i => if i = strp key then drp (M.st i) key else M.st i, M.live - (lenO y : Int), M.garb + (lenO y : Int)⟩ from fun y h h2 => by unfold delM; rw [h]; exact if_pos h2)
  have HW2 := Lib.hid (show ∀ y, getM M key = some y → ¬ M.garb + (lenO y : Int) ≤ 1099511627776 → delM M key = M from fun y h h2 => by unfold delM; rw [h]; exact if_neg h2)
  clear h hs
  generalize getM M key = o at *
  generalize delM M key = WM at *
  generalize strp key = k at *
  obtain ⟨f, L, G⟩ := M
  dsimp only at *
  go_enter Try.func18, Try.ntmps18
  go_wp2_with fail
  refine (HC.out _ (Hr.out.below HB0.out)).mono ?_; rintro e w1 ⟨⟨s1, rfl, hown1⟩, hb1⟩
  have HX1 := Lib.hid (HBx.out.below hb1)
  have HY1 := Lib.hid (HBy.out.below hb1)
  have HB1 := Lib.hid (bstep HB0.out hb1)
  have HO1 := Lib.hid (hown1.mono (show w.heap.size + 2 ≤ _ by simp))
  have c0 := HX1.out.c0
  have c1 := HX1.out.c1
  have c2 := HX1.out.c2
  have c3 := HX1.out.c3
  have c4 := HX1.out.c4
  have c5 := HX1.out.c5
  have c6 := HX1.out.c6
  have c7 := HX1.out.c7
  have c8 := HX1.out.cl
  have c9 := HX1.out.cg
  have cF := HX1.out.f
  clear hown1 hb1 HC HBx HBy HB0
  go_upto_region 2 with fail
  change Code.wp _ _ _ _ (putM w1 w.heap.size s1 L G)
  obtain ⟨V, hV⟩ : ∃ V, putM w1 w.heap.size s1 L G = V := ⟨_, rfl⟩
  have HXv := Lib.hid (show BoxM V w.heap.size s1 L G from hV ▸ HX1.out.all s1 L G)
  have HYv := Lib.hid (show BoxM V (w.heap.size + 1) Sl.nil 0 0 from hV ▸ HY1.out.putM_ne (by omega) s1 L G)
  have HBv := Lib.hid (show Below w.heap.size w V from hV ▸ putM_below HB1.out (Nat.le_refl _) s1 L G)
  have HOv := Lib.hid (show OwnM V (w.heap.size + 2) s1 f from hV ▸ HO1.out.putM (by omega) s1 L G)
  rw [hV]
  clear hV c0 c1 c2 c3 c4 c5 c6 c7 c8 c9 cF HX1 HY1 HB1 HO1
  have c0 := HXv.out.c0
  have c1 := HXv.out.c1
  have c2 := HXv.out.c2
  have c3 := HXv.out.c3
  have c4 := HXv.out.c4
  have c5 := HXv.out.c5
  have c6 := HXv.out.c6
  have c7 := HXv.out.c7
  have c8 := HXv.out.cl
  have c9 := HXv.out.cg
  have cF := HXv.out.f
  go_wp2_with fail
  refine (HS.out _).mono ?_; rintro e w2 ⟨rfl, rfl⟩
  go_wp2_with fail
  refine (HG.out s1 V HOv.out.rd).mono ?_; rintro e w2 ⟨rfl, hb2⟩
  have HX2 := Lib.hid ((HXv.out.below hb2).below (below_box w2 (o.getD it0)))
  have HY2 := Lib.hid ((HYv.out.below hb2).below (below_box w2 (o.getD it0)))
  have HB2 := Lib.hid (bstep (bstep HBv.out hb2) (below_box w2 (o.getD it0)))
  have HO2 := Lib.hid ((HOv.out.keep hb2).keep (below_box w2 (o.getD it0)))
  have HI2 := Lib.hid (BoxI.new w2 (o.getD it0))
  clear hb2 c0 c1 c2 c3 c4 c5 c6 c7 c8 c9 cF HXv HYv HBv HOv HG HS
  cases o with
  | none =>
    have HW := Lib.hid (HW0.out rfl)
    go_upto_region 5 with fail
    obtain ⟨V3, hV3⟩ : ∃ V3, w2.alloc (boxC it0) = V3 := ⟨_, rfl⟩
    rw [show w2.alloc (boxC ((none : Option It).getD it0)) = V3 from hV3] at HX2 HY2 HB2 HO2
    rw [hV3]
    clear hV3 HI2
    have c0 := HX2.out.c0
    have c1 := HX2.out.c1
    have c2 := HX2.out.c2
    have c3 := HX2.out.c3
    have c4 := HX2.out.c4
    have c5 := HX2.out.c5
    have c6 := HX2.out.c6
    have c7 := HX2.out.c7
    have c8 := HX2.out.cl
    have c9 := HX2.out.cg
    have cF := HX2.out.f
    have d0 := HY2.out.c0
    have d1 := HY2.out.c1
    have d2 := HY2.out.c2
    have d3 := HY2.out.c3
    have d4 := HY2.out.c4
    have d5 := HY2.out.c5
    have d6 := HY2.out.c6
    have d7 := HY2.out.c7
    have d8 := HY2.out.cl
    have d9 := HY2.out.cg
    have dF := HY2.out.f
    go_wp2_with fail
    change bodyPost _ _ _ _ _ (putM V3 (w.heap.size + 1) s1 L G)
    have hby := HY2.out.all s1 L G
    have HRq := Lib.hid ((HO2.out.putM (show w.heap.size + 1 < w.heap.size + 2 by omega) s1 L G).mono (show w.heap.size ≤ w.heap.size + 2 by omega))
    have HBz := Lib.hid (putM_below HB2.out (show w.heap.size ≤ w.heap.size + 1 by omega) s1 L G)
    generalize putM V3 (w.heap.size + 1) s1 L G = V9 at *
    exact bodyPost_ret (v := mapV s1 L G) (by simp [results, Try.results18, go_sem, hby.c0, hby.c1, hby.c2, hby.c3, hby.c4, hby.c5, hby.c6, hby.c7, hby.cl, hby.cg]) rfl ⟨⟨_, by rw [HW.out], by rw [HW.out]; exact HRq.out⟩, HBz.out⟩
  | some y =>
    obtain ⟨⟨hLs, hL0, hL1⟩, hG0, hG1, hy0, hsk⟩ := HSo.out y rfl
    have HY0 := Lib.hid hy0
    have HSk := Lib.hid hsk
    have HW1y := Lib.hid (HW1.out y rfl)
    have HW2y := Lib.hid (HW2.out y rfl)
    clear HSo HW0 HW1 HW2 hy0 hsk
    go_upto_region 6 with fail
    obtain ⟨V3, hV3⟩ : ∃ V3, w2.alloc (boxC y) = V3 := ⟨_, rfl⟩
    rw [show w2.alloc (boxC ((some y).getD it0)) = V3 from hV3] at HX2 HY2 HB2 HO2 HI2
    rw [show (some y).getD it0 = y from rfl] at HI2
    rw [hV3]
    clear hV3
    have hlen := lenO_le y
    have HCt := Lib.hid (fun u : BelowBy V3 => counters_any s1 L G u.w')
    have HLn := Lib.hid (fun u : BelowBy V3 => lengthN_any y HY0.out u.w')
    have HTu := Lib.hid (fun u : BelowBy V3 => turned_any (lenO y) (by omega) u.w')
    generalize lenO y = n at *
    have hadd := fun W => csum_fb (a := L) (b := G) (c := -(n : Int)) (d := (n : Int)) hLs (small_of (by omega) (by omega)) (small_of (by omega) (by omega)) (small_of (by omega) (by omega)) (small_of (by omega) (by omega)) (small_of (by omega) (by omega)) 71 W
    have hgt := ord_gt (a := G + (n : Int)) (b := 1099511627776) (small_of (by omega) (by omega)) (small_of (by omega) (by omega))
    rw [show Fx.fb 1099511627776 = 4787326403894837248 from rfl] at hgt
    have HWi := Lib.hid (fun s W => with_any s L G (L + -(n : Int)) (G + (n : Int)) (small_of (by omega) (by omega)) (small_of (by omega) (by omega)) W)
    have e : L + -(n : Int) = L - (n : Int) := by omega
    rw [e] at hadd HWi
    clear e
    have c0 := HX2.out.c0
    have c1 := HX2.out.c1
    have c2 := HX2.out.c2
    have c3 := HX2.out.c3
    have c4 := HX2.out.c4
    have c5 := HX2.out.c5
    have c6 := HX2.out.c6
    have c7 := HX2.out.c7
    have c8 := HX2.out.cl
    have c9 := HX2.out.cg
    have cF := HX2.out.f
    have i0 := HI2.out.t.c0
    have i1 := HI2.out.t.c1
    have i2 := HI2.out.t.c2
    have i3 := HI2.out.t.c3
    have iF := HI2.out.f
    have f0 := cell_by c0
    have f1 := cell_by c1
    have f2 := cell_by c2
    have f3 := cell_by c3
    have f4 := cell_by c4
    have f5 := cell_by c5
    have f6 := cell_by c6
    have f7 := cell_by c7
    have f8 := cell_by c8
    have f9 := cell_by c9
    have k0 := cell_by i0
    have k1 := cell_by i1
    have k2 := cell_by i2
    have k3 := cell_by i3
    clear c0 c1 c2 c3 c4 c5 c6 c7 c8 c9 cF i0 i1 i2 i3 iF
    refine wp_region_below (by kernel_rfl) (by kernel_rfl) ?_
    repeat (go_big_quiet_step ((first | exact calls_by (HCt.out _) | exact calls_by (HLn.out _) | exact calls_by (HTu.out _))))
    refine wpQuiet_nil ?_
    intro _ hw'
    obtain ⟨u, hw'⟩ := hw'
    subst hw'
    have HX3 := Lib.hid (HX2.out.below u.h)
    have HY3 := Lib.hid (HY2.out.below u.h)
    have HB3 := Lib.hid (bstep HB2.out u.h)
    have HO3 := Lib.hid (HO2.out.keep u.h)
    generalize u.w' = w3 at *
    clear f0 f1 f2 f3 f4 f5 f6 f7 f8 f9 k0 k1 k2 k3 HCt HLn HTu hadd HX2 HY2 HB2 HO2 HI2
    by_cases hgo : G + (n : Int) ≤ 1099511627776
    · have HW := Lib.hid (HW1y.out hgo)
      rw [decide_eq_false (show ¬ (1099511627776 < G + (n : Int)) by omega)] at hgt
      have hvk : s1.v k = .slice (s1.a k) (s1.n k) (s1.c k) := rfl
      have ck := HX3.out.c k hk8
      have HDk := Lib.hid (HDr.out _ w3 (HO3.out k hk8).rd)
      rw [HSk.out] at HDk
      rw [hvk] at ck HDk
      clear hvk
      go_wp2_with fail
      refine HDk.out.mono ?_; rintro e w4 ⟨v4, rfl, hown4, hb4⟩
      have HX4 := Lib.hid (HX3.out.below hb4)
      have HY4 := Lib.hid (HY3.out.below hb4)
      have HB4 := Lib.hid (bstep HB3.out hb4)
      have HO4 := Lib.hid (HO3.out.keep hb4)
      have HN4 := Lib.hid (hown4.mono (show w.heap.size + 2 ≤ w3.heap.size from HY3.out.lt))
      obtain ⟨va, vc, hv4, _⟩ := own_form hown4
      subst hv4
      clear hown4 hb4 HDk ck HX3 HY3 HB3 HO3
      have ck := HX4.out.c k hk8
      have cf := HX4.out.f k
      have hvk : s1.v k = .slice (s1.a k) (s1.n k) (s1.c k) := rfl
      rw [hvk] at ck
      generalize (drp (f k) key).length = dn at *
      go_upto_region 10 with fail
      obtain ⟨V5, hV5⟩ : ∃ V5, w4.setCell ⟨w.heap.size, k, none⟩ (.slice va dn vc) = V5 := ⟨_, rfl⟩
      have HX5 := Lib.hid (show BoxM V5 w.heap.size (s1.set k va dn vc) L G from hV5 ▸ HX4.out.setS hk8 va dn vc)
      have HY5 := Lib.hid (show BoxM V5 (w.heap.size + 1) Sl.nil 0 0 from hV5 ▸ HY4.out.set_ne (p := ⟨w.heap.size, k, none⟩) (show w.heap.size ≠ w.heap.size + 1 by omega) _)
      have HB5 := Lib.hid (show Below w.heap.size w V5 from hV5 ▸ HB4.out.setCell (p := ⟨w.heap.size, k, none⟩) (Nat.le_refl _) _)
      have HO5 := Lib.hid (show OwnM V5 (w.heap.size + 2) (s1.set k va dn vc) (fun i => if i = k then drp (f k) key else f i) from hV5 ▸ OwnM.set (fun i hi => own_set_lo (HO4.out i hi) (p := ⟨w.heap.size, k, none⟩) (show w.heap.size < w.heap.size + 2 by omega) _) (show OwnT _ _ _ (drp (f k) key) from ownT_of (own_set_lo HN4.out (p := ⟨w.heap.size, k, none⟩) (show w.heap.size < w.heap.size + 2 by omega) _) rfl))
      rw [hV5]
      clear hV5 ck cf hvk HX4 HY4 HB4 HO4 HN4
      have hfe : (fun i => if i = k then drp (f k) key else f i) = (fun i => if i = k then drp (f i) key else f i) := funext fun i => by
        by_cases e : i = k
        · rw [if_pos e, if_pos e, e]
        · rw [if_neg e, if_neg e]
      rw [hfe] at HO5
      clear hfe
      generalize s1.set k va dn vc = s2 at *
      have c0 := HX5.out.c0
      have c1 := HX5.out.c1
      have c2 := HX5.out.c2
      have c3 := HX5.out.c3
      have c4 := HX5.out.c4
      have c5 := HX5.out.c5
      have c6 := HX5.out.c6
      have c7 := HX5.out.c7
      have c8 := HX5.out.cl
      have c9 := HX5.out.cg
      have cF := HX5.out.f
      go_wp2_with fail
      refine (HWi.out s2 V5).mono ?_; rintro e w6 ⟨rfl, hb6⟩
      have HX6 := Lib.hid (HX5.out.below hb6)
      have HY6 := Lib.hid (HY5.out.below hb6)
      have HB6 := Lib.hid (bstep HB5.out hb6)
      have HO6 := Lib.hid (HO5.out.keep hb6)
      clear hb6 c0 c1 c2 c3 c4 c5 c6 c7 c8 c9 cF
      generalize L - (n : Int) = L2 at *
      generalize G + (n : Int) = G2 at *
      have c0 := HX6.out.c0
      have c1 := HX6.out.c1
      have c2 := HX6.out.c2
      have c3 := HX6.out.c3
      have c4 := HX6.out.c4
      have c5 := HX6.out.c5
      have c6 := HX6.out.c6
      have c7 := HX6.out.c7
      have c8 := HX6.out.cl
      have c9 := HX6.out.cg
      have cF := HX6.out.f
      have d0 := HY6.out.c0
      have d1 := HY6.out.c1
      have d2 := HY6.out.c2
      have d3 := HY6.out.c3
      have d4 := HY6.out.c4
      have d5 := HY6.out.c5
      have d6 := HY6.out.c6
      have d7 := HY6.out.c7
      have d8 := HY6.out.cl
      have d9 := HY6.out.cg
      have dF := HY6.out.f
      go_wp2_with fail
      change bodyPost _ _ _ _ _ (putM w6 (w.heap.size + 1) s2 L2 G2)
      have hby := HY6.out.all s2 L2 G2
      have HRq := Lib.hid ((HO6.out.putM (show w.heap.size + 1 < w.heap.size + 2 by omega) s2 L2 G2).mono (show w.heap.size ≤ w.heap.size + 2 by omega))
      have HBz := Lib.hid (putM_below HB6.out (show w.heap.size ≤ w.heap.size + 1 by omega) s2 L2 G2)
      generalize putM w6 (w.heap.size + 1) s2 L2 G2 = V9 at *
      exact bodyPost_ret (v := mapV s2 L2 G2) (by simp [results, Try.results18, go_sem, hby.c0, hby.c1, hby.c2, hby.c3, hby.c4, hby.c5, hby.c6, hby.c7, hby.cl, hby.cg]) rfl ⟨⟨_, by rw [HW.out], by rw [HW.out]; exact HRq.out⟩, HBz.out⟩
    · have HW := Lib.hid (HW2y.out (by omega))
      rw [decide_eq_true (show 1099511627776 < G + (n : Int) by omega)] at hgt
      have c0 := HX3.out.c0
      have c1 := HX3.out.c1
      have c2 := HX3.out.c2
      have c3 := HX3.out.c3
      have c4 := HX3.out.c4
      have c5 := HX3.out.c5
      have c6 := HX3.out.c6
      have c7 := HX3.out.c7
      have c8 := HX3.out.cl
      have c9 := HX3.out.cg
      have cF := HX3.out.f
      have d0 := HY3.out.c0
      have d1 := HY3.out.c1
      have d2 := HY3.out.c2
      have d3 := HY3.out.c3
      have d4 := HY3.out.c4
      have d5 := HY3.out.c5
      have d6 := HY3.out.c6
      have d7 := HY3.out.c7
      have d8 := HY3.out.cl
      have d9 := HY3.out.cg
      have dF := HY3.out.f
      go_wp2_with fail
      change bodyPost _ _ _ _ _ (putM w3 (w.heap.size + 1) s1 L G)
      have hby := HY3.out.all s1 L G
      have HRq := Lib.hid ((HO3.out.putM (show w.heap.size + 1 < w.heap.size + 2 by omega) s1 L G).mono (show w.heap.size ≤ w.heap.size + 2 by omega))
      have HBz := Lib.hid (putM_below HB3.out (show w.heap.size ≤ w.heap.size + 1 by omega) s1 L G)
      generalize putM w3 (w.heap.size + 1) s1 L G = V9 at *
      exact bodyPost_ret (v := mapV s1 L G) (by simp [results, Try.results18, go_sem, hby.c0, hby.c1, hby.c2, hby.c3, hby.c4, hby.c5, hby.c6, hby.c7, hby.cl, hby.cg]) rfl ⟨⟨_, by rw [HW.out], by rw [HW.out]; exact HRq.out⟩, HBz.out⟩
end Go.Proofs.Ytndhjfmdfcpceaa
