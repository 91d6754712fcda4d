/- Several texts in one, each over the last: The needle map's Waste: the walk. slices.Insert at items: the walk. slices.Delete of one item: the walk. index.Put and index.Drop: the walks. The needle map's Delete: the walk. -/
import Derived.Test.YtenkeodfijladaaGreatDoorGA
import Derived.Test.YtenkeodfijladaaGreatDoorQt
import Derived.Test.YtenkeodfijladaaGreatDoorGW
import Derived.Laws.Externs
import Derived.Test.YtenkeodfijladaaGreatDoorPf
namespace Go.Proofs.YtenkeodfijladaaGreatDoor
open Go.RowKit

def wasteM (M : Mp) (n : Int) : Mp := if vldM M = true ∧ 0 ≤ n ∧ n ≤ 1099511627776 - M.garb then ⟨M.st, M.live, M.garb + n⟩ else M
theorem live_small {M : Mp} (h : VldM M) (hs : ∀ i, i < 8 → (M.st i).length ≤ 10000) : Fx.Small M.live ∧ 0 ≤ M.live ∧ M.live ≤ 400000000 := by
  have h1 := allM_len hs
  have h2 := sumI_le (allM M)
  have h3 := h.lv
  have : (allM M).length * 4127 ≤ 80000 * 4127 := Nat.mul_le_mul_right _ h1
  unfold Fx.Small
  rw [Fx.p53]
  omega
theorem small_of {a : Int} (h1 : -9007199254740991 ≤ a) (h2 : a ≤ 9007199254740991) : Fx.Small a := by
  unfold Fx.Small; rw [Fx.p53]; omega
theorem csum_fb {a b c d : Int} (ha : Fx.Small a) (hb : Fx.Small b) (hc : Fx.Small c) (hd : Fx.Small d) (hac : Fx.Small (a + c)) (hbd : Fx.Small (b + d)) (t : TypeId) (W : World) :
    (binOp .add t (.complex .f64 (Fx.fb a) (Fx.fb b)) (.complex .f64 (Fx.fb c) (Fx.fb d))).run Tryz.prog W = .ok (.complex .f64 (Fx.fb (a + c)) (Fx.fb (b + d))) W :=
  run_complex_sum W .add (.inl rfl) t .f64 _ _ _ _ _ _ (by
    unfold cSumBits floatBits
    show ((FloatKind.f64.format.add _ _).bind _) = _
    rw [show FloatKind.f64.format.add (Fx.fb a) (Fx.fb c) = some (Fx.fb (a + c)) from Fx.add_fb a c ha hc hac, show FloatKind.f64.format.add (Fx.fb b) (Fx.fb d) = some (Fx.fb (b + d)) from Fx.add_fb b d hb hd hbd]
    rfl)
set_option maxRecDepth 100000 in
set_option maxHeartbeats 8000000 in
theorem wasteM_any (s : Sl) (M : Mp) (n : Int) (w : World) (h : RdM w s M.st) (hs : ∀ i, i < 8 → (M.st i).length ≤ 10000) :
    Calls Tryz.prog 30 #[mapV s M.live M.garb, .int .i64 n] w fun e w' => (∃ s', e = .returned (mapV s' (wasteM M n).live (wasteM M n).garb) ∧ OwnM w' w.heap.size s' (wasteM M n).st) ∧ Below w.heap.size w w' := by
  have HV := Lib.hid (fun s W h => validM_any s M W h (fun i hi => Nat.le_trans (hs i hi) (by decide)))
  have HBx := Lib.hid ((BoxM.new w s M.live M.garb 41).below (below_map (w.alloc (.cells (mapC s M.live M.garb) 41)) Sl.nil 0 0 41))
  have HBy := Lib.hid (BoxM.new (w.alloc (.cells (mapC s M.live M.garb) 41)) Sl.nil 0 0 41)
  have HB0 := Lib.hid (bstep (below_map w s M.live M.garb 41) (below_map (w.alloc (.cells (mapC s M.live M.garb) 41)) Sl.nil 0 0 41))
  rw [show (w.alloc (.cells (mapC s M.live M.garb) 41)).heap.size = w.heap.size + 1 by simp] at HBy
  have HC := Lib.hid (fun W h => cloneM_any s M.live M.garb M.st W h (fun i hi => Nat.le_trans (hs i hi) (by decide)))
  have Hr := Lib.hid h
  have HVl := Lib.hid (fun hv : vldM M = true => (⟨live_small ((vldM_iff M).1 hv) hs, ((vldM_iff M).1 hv).g0, ((vldM_iff M).1 hv).g1⟩ : _ ∧ _ ∧ _))
  have HW := Lib.hid (show wasteM M n = if vldM M = true ∧ 0 ≤ n ∧ n ≤ 1099511627776 - M.garb then ⟨M.st, M.live, M.garb + n⟩ else M from rfl)
  clear h hs
  generalize vldM M = vb at *
  generalize wasteM M n = WM at *
  obtain ⟨f, L, G⟩ := M
  dsimp only at *
  go_enter Tryz.func30, Tryz.ntmps30
  go_wp2_with fail
  refine (HC.out _ (Hr.out.below HB0.out)).mono ?_; rintro e w1 ⟨⟨s1, rfl, hown1⟩, hb1⟩
  have HX1 := Lib.hid (HBx.out.below hb1)
  have HY1 := Lib.hid (HBy.out.below hb1)
  have HB1 := Lib.hid (bstep HB0.out hb1)
  have HO1 := Lib.hid (hown1.mono (show w.heap.size + 2 ≤ _ by simp))
  have c0 := HX1.out.c0
  have c1 := HX1.out.c1
  have c2 := HX1.out.c2
  have c3 := HX1.out.c3
  have c4 := HX1.out.c4
  have c5 := HX1.out.c5
  have c6 := HX1.out.c6
  have c7 := HX1.out.c7
  have c8 := HX1.out.cl
  have c9 := HX1.out.cg
  have cF := HX1.out.f
  clear hown1 hb1 HC HBx HBy HB0
  go_upto_region 2 with fail
  change Code.wp _ _ _ _ (putM w1 w.heap.size s1 L G)
  obtain ⟨V, hV⟩ : ∃ V, putM w1 w.heap.size s1 L G = V := ⟨_, rfl⟩
  have HXv := Lib.hid (show BoxM V w.heap.size s1 L G from hV ▸ HX1.out.all s1 L G)
  have HYv := Lib.hid (show BoxM V (w.heap.size + 1) Sl.nil 0 0 from hV ▸ HY1.out.putM_ne (by omega) s1 L G)
  have HBv := Lib.hid (show Below w.heap.size w V from hV ▸ putM_below HB1.out (Nat.le_refl _) s1 L G)
  have HOv := Lib.hid (show OwnM V (w.heap.size + 2) s1 f from hV ▸ HO1.out.putM (by omega) s1 L G)
  rw [hV]
  clear hV c0 c1 c2 c3 c4 c5 c6 c7 c8 c9 cF HX1 HY1 HB1 HO1
  have c0 := HXv.out.c0
  have c1 := HXv.out.c1
  have c2 := HXv.out.c2
  have c3 := HXv.out.c3
  have c4 := HXv.out.c4
  have c5 := HXv.out.c5
  have c6 := HXv.out.c6
  have c7 := HXv.out.c7
  have c8 := HXv.out.cl
  have c9 := HXv.out.cg
  have cF := HXv.out.f
  go_wp2_with fail
  refine (HV.out s1 V HOv.out.rd).mono ?_; rintro e w2 ⟨rfl, hb2⟩
  have HX2 := Lib.hid (HXv.out.below hb2)
  have HY2 := Lib.hid (HYv.out.below hb2)
  have HB2 := Lib.hid (bstep HBv.out hb2)
  have HO2 := Lib.hid (HOv.out.keep hb2)
  clear hb2 c0 c1 c2 c3 c4 c5 c6 c7 c8 c9 cF HXv HYv HBv HOv HV
  have c0 := HX2.out.c0
  have c1 := HX2.out.c1
  have c2 := HX2.out.c2
  have c3 := HX2.out.c3
  have c4 := HX2.out.c4
  have c5 := HX2.out.c5
  have c6 := HX2.out.c6
  have c7 := HX2.out.c7
  have c8 := HX2.out.cl
  have c9 := HX2.out.cg
  have cF := HX2.out.f
  have d0 := HY2.out.c0
  have d1 := HY2.out.c1
  have d2 := HY2.out.c2
  have d3 := HY2.out.c3
  have d4 := HY2.out.c4
  have d5 := HY2.out.c5
  have d6 := HY2.out.c6
  have d7 := HY2.out.c7
  have d8 := HY2.out.cl
  have d9 := HY2.out.cg
  have dF := HY2.out.f
  by_cases hok : vb = true ∧ 0 ≤ n ∧ n ≤ 1099511627776 - G
  · rw [if_pos hok] at HW
    obtain ⟨rfl, h1, h2⟩ := hok
    obtain ⟨⟨hLs, hL0, hL1⟩, hG0, hG1⟩ := HVl.out rfl
    have g1 : decide (n < 0) = false := by simp; omega
    have j1 : IntKind.i64.wrap (1099511627776 - G) = 1099511627776 - G := IntWalk.i64_in _ (by omega)
    have g2 : decide (1099511627776 - G < n) = false := by simp; omega
    have HCt := Lib.hid (fun u : BelowBy w2 => counters_any s1 L G u.w')
    have HWi := Lib.hid (fun W => with_any s1 L G L (G + n) hLs (small_of (by omega) (by omega)) W)
    have hadd := fun W => csum_fb (a := L) (b := G) (c := 0) (d := n) hLs (small_of (by omega) (by omega)) (small_of (by omega) (by omega)) (small_of (by omega) (by omega)) (by rw [Int.add_zero]; exact hLs) (small_of (by omega) (by omega)) 98 W
    have hz : Fx.fb 0 = 0 := rfl
    rw [Int.add_zero, hz] at hadd
    have hfn : floatOfInt .f64 n = Fx.fb n := rfl
    have e0 := HX2.out.c0
    have e1 := HX2.out.c1
    have e2 := HX2.out.c2
    have e3 := HX2.out.c3
    have e4 := HX2.out.c4
    have e5 := HX2.out.c5
    have e6 := HX2.out.c6
    have e7 := HX2.out.c7
    have e8 := HX2.out.cl
    have e9 := HX2.out.cg
    have eF := HX2.out.f
    go_wp2_with fail
    have f0 := cell_by e0
    have f1 := cell_by e1
    have f2 := cell_by e2
    have f3 := cell_by e3
    have f4 := cell_by e4
    have f5 := cell_by e5
    have f6 := cell_by e6
    have f7 := cell_by e7
    have f8 := cell_by e8
    have f9 := cell_by e9
    refine wp_region_below_tail 7 (by kernel_rfl) (by kernel_rfl) ?_
    simp only [List.take_succ_cons, List.take_zero, List.drop_succ_cons, List.drop_zero]
    repeat (go_big_quiet_step (exact calls_by (HCt.out _)))
    refine wpQuiet_nil ?_
    intro _ hw'
    obtain ⟨u, hw'⟩ := hw'
    subst hw'
    have HYu := Lib.hid (HY2.out.below u.h)
    have HBu := Lib.hid (bstep HB2.out u.h)
    have HOu := Lib.hid (HO2.out.keep u.h)
    generalize u.w' = w3 at *
    clear c0 c1 c2 c3 c4 c5 c6 c7 c8 c9 cF d0 d1 d2 d3 d4 d5 d6 d7 d8 d9 dF e0 e1 e2 e3 e4 e5 e6 e7 e8 e9 eF f0 f1 f2 f3 f4 f5 f6 f7 f8 f9 hadd
    go_wp2_with fail
    refine (HWi.out _).mono ?_; rintro e w4 ⟨rfl, hb4⟩
    have HY4 := Lib.hid (HYu.out.below hb4)
    have HB4 := Lib.hid (bstep HBu.out hb4)
    have HO4 := Lib.hid (HOu.out.keep hb4)
    clear hb4
    have d0 := HY4.out.c0
    have d1 := HY4.out.c1
    have d2 := HY4.out.c2
    have d3 := HY4.out.c3
    have d4 := HY4.out.c4
    have d5 := HY4.out.c5
    have d6 := HY4.out.c6
    have d7 := HY4.out.c7
    have d8 := HY4.out.cl
    have d9 := HY4.out.cg
    have dF := HY4.out.f
    go_wp2_with fail
    change bodyPost _ _ _ _ _ (putM w4 (w.heap.size + 1) s1 L (G + n))
    have hby := HY4.out.all s1 L (G + n)
    have HRq := Lib.hid ((HO4.out.putM (show w.heap.size + 1 < w.heap.size + 2 by omega) s1 L (G + n)).mono (show w.heap.size ≤ w.heap.size + 2 by omega))
    have HBz := Lib.hid (putM_below HB4.out (Nat.le_succ _) s1 L (G + n))
    generalize putM w4 (w.heap.size + 1) s1 L (G + n) = V2 at *
    exact bodyPost_ret (v := mapV s1 L (G + n)) (by simp [results, Tryz.results30, go_sem, hby.c0, hby.c1, hby.c2, hby.c3, hby.c4, hby.c5, hby.c6, hby.c7, hby.cl, hby.cg]) rfl ⟨⟨s1, by rw [HW.out], by rw [HW.out]; exact HRq.out⟩, HBz.out⟩
  · rw [if_neg hok] at HW
    cases vb
    · clear hok
      go_wp2_with fail
      change bodyPost _ _ _ _ _ (putM w2 (w.heap.size + 1) s1 L G)
      have hby := HY2.out.all s1 L G
      have HRq := Lib.hid ((HO2.out.putM (show w.heap.size + 1 < w.heap.size + 2 by omega) s1 L G).mono (show w.heap.size ≤ w.heap.size + 2 by omega))
      have HBz := Lib.hid (putM_below HB2.out (Nat.le_succ _) s1 L G)
      generalize putM w2 (w.heap.size + 1) s1 L G = V2 at *
      exact bodyPost_ret (v := mapV s1 L G) (by simp [results, Tryz.results30, go_sem, hby.c0, hby.c1, hby.c2, hby.c3, hby.c4, hby.c5, hby.c6, hby.c7, hby.cl, hby.cg]) rfl ⟨⟨s1, by rw [HW.out], by rw [HW.out]; exact HRq.out⟩, HBz.out⟩
    · by_cases h1 : n < 0
      · have g1 : decide (n < 0) = true := by simpa using h1
        clear hok
        go_wp2_with fail
        change bodyPost _ _ _ _ _ (putM w2 (w.heap.size + 1) s1 L G)
        have hby := HY2.out.all s1 L G
        have HRq := Lib.hid ((HO2.out.putM (show w.heap.size + 1 < w.heap.size + 2 by omega) s1 L G).mono (show w.heap.size ≤ w.heap.size + 2 by omega))
        have HBz := Lib.hid (putM_below HB2.out (Nat.le_succ _) s1 L G)
        generalize putM w2 (w.heap.size + 1) s1 L G = V2 at *
        exact bodyPost_ret (v := mapV s1 L G) (by simp [results, Tryz.results30, go_sem, hby.c0, hby.c1, hby.c2, hby.c3, hby.c4, hby.c5, hby.c6, hby.c7, hby.cl, hby.cg]) rfl ⟨⟨s1, by rw [HW.out], by rw [HW.out]; exact HRq.out⟩, HBz.out⟩
      · have g1 : decide (n < 0) = false := by simpa using h1
        obtain ⟨_, hG0, hG1⟩ := HVl.out rfl
        have j1 : IntKind.i64.wrap (1099511627776 - G) = 1099511627776 - G := IntWalk.i64_in _ (by omega)
        have g2 : decide (1099511627776 - G < n) = true := by
          have : ¬ n ≤ 1099511627776 - G := fun e => hok ⟨rfl, by omega, e⟩
          simp; omega
        clear hok
        go_wp2_with fail
        change bodyPost _ _ _ _ _ (putM w2 (w.heap.size + 1) s1 L G)
        have hby := HY2.out.all s1 L G
        have HRq := Lib.hid ((HO2.out.putM (show w.heap.size + 1 < w.heap.size + 2 by omega) s1 L G).mono (show w.heap.size ≤ w.heap.size + 2 by omega))
        have HBz := Lib.hid (putM_below HB2.out (Nat.le_succ _) s1 L G)
        generalize putM w2 (w.heap.size + 1) s1 L G = V2 at *
        exact bodyPost_ret (v := mapV s1 L G) (by simp [results, Tryz.results30, go_sem, hby.c0, hby.c1, hby.c2, hby.c3, hby.c4, hby.c5, hby.c6, hby.c7, hby.cl, hby.cg]) rfl ⟨⟨s1, by rw [HW.out], by rw [HW.out]; exact HRq.out⟩, HBz.out⟩
end Go.Proofs.YtenkeodfijladaaGreatDoor

namespace Go.Proofs.YtenkeodfijladaaGreatDoor
open Go.RowKit

set_option maxRecDepth 100000 in
theorem overlaps_run {w : World} {hb g : Nat} {ca cb : Array Value} (hne : hb ≠ g) (ha : w.heap[hb]? = some (.cells ca 77 (0, 0))) (hb' : w.heap[g]? = some (.cells cb 77 (0, 0))) (hn : cb.size ≠ 0) (off : Nat) :
    ∀ la c lb d, (callFunc 122 #[.slice (some ⟨hb, 0, none⟩) la c, .slice (some ⟨g, off, none⟩) lb d]).run Tryz.prog w = .ok (.value (.bool false)) w := fun la c lb d => by
  rw [run_callFunc_extern Tryz.func122 (by kernel_rfl) (by kernel_rfl) (by kernel_rfl) (e := Extern.SlicesOverlaps.overlaps #[22, 22] #[4]) (by kernel_rfl),
    Lib.run_overlaps_apart w 22 4 77 Tryz.underlying22 4 (elem_of elemT).2 ⟨hb, 0, none⟩ ⟨g, off, none⟩ la c lb d hne 77 77 ca.size cb.size (by simp [World.shape?, ha]) (by simp [World.shape?, hb']) hn (by simp [World.frozen?, ha]) (by simp [World.frozen?, ha])]
  rfl

theorem slice_own1 (g n cap k : Nat) (hk : k + 1 ≤ n) (hc : k + 1 < cap) :
    ∀ W kl, (Instr.slice 22 (.slice (some ⟨g, 0, none⟩) n cap) (some (.int kl ((k : Int) + 1))) none none).run Tryz.prog W = .ok (.slice (some ⟨g, (k + 1) * 4, none⟩) (n - (k + 1)) (cap - (k + 1))) W := fun W kl => by
  have := slice_own (P := Tryz.prog) elemT g n cap (k + 1) hk hc W kl
  rw [Int.natCast_add] at this
  exact this
theorem own_from {w : World} {B g n cap : Nat} {xs : List Value} (h : w.ownsRow B 77 4 (.slice (some ⟨g, 0, none⟩) n cap) n xs) (k : Nat) (hk : k ≤ n) (hc : k < cap) :
    Rd w 4 (.slice (some ⟨g, k * 4, none⟩) (n - k) (cap - k)) (n - k) (xs.drop (k * 4)) := by
  have hx := h.1
  have := rd_sliced (own_rd h) k n hk (Nat.le_refl _)
  have hne : cap ≠ k := by omega
  unfold sliced at this
  rw [if_neg hne] at this
  simp only [Option.map_some, addr_add, Nat.zero_add] at this
  rw [List.take_of_length_le (by rw [List.length_drop, hx, Nat.sub_mul]; omega)] at this
  exact this
theorem own_obj {w : World} {B g n cap : Nat} {xs : List Value} (h : w.ownsRow B 77 4 (.slice (some ⟨g, 0, none⟩) n cap) n xs) : ∃ cur, w.heap[g]? = some (.cells cur 77 (0, 0)) ∧ cur.size = cap * 4 ∧ n ≤ cap := by
  rcases h.2 with ⟨h', _⟩ | ⟨g', c2, cur, h', hb, hg, hnc, hcm, hcs, htake⟩
  · cases h'
  · injection h' with h' _ h''
    injection h' with h'
    injection h' with h' _
    subst h' h''
    exact ⟨cur, hg, hcs, hnc⟩
set_option maxHeartbeats 1000000 in
theorem ins_any (v : Value) (l : List It) (i : Nat) (x : It) (hb B : Nat) (w : World) (hown : OwnT w B v l) (hB : B ≤ w.heap.size) (hi : i ≤ l.length) (hs : l.length ≤ 1000000)
    (hh : w.heap[hb]? = some (.cells (itC x).toArray 77 (0, 0))) (hne : ∀ k, v.ownBlock = some k → k ≠ hb) :
    Calls Tryz.prog 95 #[v, .int .i64 (i : Int), .slice (some ⟨hb, 0, none⟩) 1 1] w fun e w' => ∃ v', e = .returned v' ∧ OwnT w' B v' (l.take i ++ x :: l.drop i) ∧ Below B w w' := by
  have hv1 : Rd w 4 (.slice (some ⟨hb, 0, none⟩) 1 1) 1 (itC x) := by
    refine ⟨rfl, some ⟨hb, 0, none⟩, 1, rfl, Nat.le_refl _, by unfold maxLen; omega, fun h => (by cases h), fun _ => ⟨hb, 0, rfl, fun j u hj => ?_⟩⟩
    have : w.cell? ⟨hb, 0 + j, none⟩ = (itC x).toArray[0 + j]? := by simp [World.cell?, hh]
    rw [this, Nat.zero_add, List.getElem?_toArray]; exact hj
  obtain ⟨oa, oc, rfl, ho1, ho2, ho3⟩ := own_form hown
  have hm := lt63 ho1 ho2
  have Hown := Lib.hid (show w.ownsRow B 77 4 _ l.length (itsC l) from hown)
  have Hv := Lib.hid hv1
  have Hh := Lib.hid hh
  have hl := itsC_length l
  have hfin : itsC (l.take i ++ x :: l.drop i) = (itsC l).take (i * 4) ++ itC x ++ (itsC l).drop (i * 4) := by
    rw [itsC_append, itsC_cons, itsC_take, itsC_drop, List.append_assoc]
  have HF := Lib.hid hfin
  have Hone := Lib.hid (itsC_one' l)
  have Hon1 := Lib.hid (show ∀ u ∈ itC x, u.oneCell' = true by rw [← itsC_one]; exact itsC_one' [x])
  have hl1 : (itC x).length = 4 := rfl
  generalize hn : l.length = n at *
  have HN := Lib.hid hn
  generalize itsC l = xs at *
  generalize itC x = c at *
  have HL := Lib.hid hl
  have HL1 := Lib.hid hl1
  clear hown hv1 hh hn hfin hl hl1 ho3
  by_cases hin : i = n
  · subst hin
    obtain ⟨x1, y1, g1, _, _⟩ := slice_from (P := Tryz.prog) elemT (own_rd Hown.out) i (Nat.le_refl _)
    clear hne
    go_enter Tryz.func95, Tryz.ntmps95
    go_wp2_with (at_builtin; go_must (refine wpList_app rfl (.tmp 23) (.tmp 24) 22 rfl elemT B rfl Hown.out rfl Hv.out Hon1.out (by unfold maxLen; omega) (by omega) hB ?_); intro v4 w4 hown4 hgr4 hv4; clear hv4)
    go_ret
    refine ⟨_, rfl, ownT_of hown4 ?_, own_below (Below.refl _ _) Hown.out hB hgr4⟩
    rw [HF.out, List.take_of_length_le (by rw [HL.out]; omega), List.drop_of_length_le (by rw [HL.out]; omega), List.append_nil]
  · obtain ⟨g, rfl⟩ : ∃ g, oa = some ⟨g, 0, none⟩ := by
      rcases Hown.out.2 with ⟨e, h0⟩ | ⟨g, _, _, e, _⟩
      · omega
      · injection e with e; exact ⟨g, e⟩
    have hgh : g ≠ hb := hne g rfl
    have hneq : ((i : Int) == (n : Int)) = false := beq_eq_false_iff_ne.2 (by omega)
    have g1 := slice_own (P := Tryz.prog) elemT g n oc i hi (by omega)
    clear hne
    by_cases hr : oc < n + 1
    · obtain ⟨w2, c2, ha, hown2, hb2, hc2⟩ := app_zeros Hown.out i (n + 1 - i) hi (by omega) (by omega) (by omega)
      have ha : ∀ ty, (Builtin.append_ #[22, 3] ty #[.slice (some ⟨g, 0, none⟩) i oc, .int .i64 ((n : Int) + 1 - (i : Int))]).run Tryz.prog w = .ok (.slice (some ⟨w.heap.size, 0, none⟩) (n + 1) c2) w2 := fun ty => by
        have := ha ty
        rw [show ((n + 1 - i : Nat) : Int) = (n : Int) + 1 - (i : Int) by omega, show i + (n + 1 - i) = n + 1 by omega] at this
        exact this
      rw [show i + (n + 1 - i) = n + 1 by omega] at hown2
      obtain ⟨_, _, _, hnc2⟩ := own_obj hown2
      have gto := slice_to (P := Tryz.prog) elemT (a := some ⟨g, 0, none⟩) (n := n) (cap := oc) (fun x hx => ⟨g, 0, by injection hx with hx; exact hx.symm⟩) i (by omega)
      have g2 := slice_own (P := Tryz.prog) elemT w.heap.size (n + 1) c2 i (by omega) (by omega)
      obtain ⟨w3, hcp1, hown3, hgr3⟩ := copy_row (P := Tryz.prog) (sT := 22) elemT hown2 (Hv.out.below hb2) i (n + 1 - i) (c2 - i) 1 (by simp [Nat.min_def]; omega) (by decide) (by decide) (by omega) (fun u hu => Hon1.out u (List.mem_of_mem_take hu))
      have hb3 : Below w.heap.size w w3 := hb2.grown hgr3 hb2.size (by intro r hr; injection hr with hr; omega)
      have g3 := slice_own1 w.heap.size (n + 1) c2 i (by omega) (by omega)
      obtain ⟨w4, hcp2, hown4, hgr4⟩ := copy_row (P := Tryz.prog) (sT := 22) elemT hown3.drew ((own_from Hown.out i hi (by omega)).below hb3.drew) (i + 1) (n - i) (c2 - (i + 1)) (n - i) (by simp) (by omega) (by decide) (by omega) (fun u hu => Hone.out u (List.mem_of_mem_drop (List.mem_of_mem_take hu)))
      have hb4 : Below w.heap.size w w4 := hb3.drew.grown hgr4 hb3.drew.size (by intro r hr; injection hr with hr; omega)
      have hgo : ((oc : Int) < (n : Int) + 1) := by omega
      have hw2 := Lib.hid (Hown.out.1)
      have hRes := Lib.hid hown4
      have HB4 := Lib.hid hb4
      clear hb2 hb3 hb4 hown2 hown3 hown4 hgr3 hgr4 hnc2
      go_enter Tryz.func95, Tryz.ntmps95
      go_wp2_with (at_builtin; go_must (refine Lib.wpList_append_run _ rfl (.tmp 34) (.tmp 39) 22 3 rfl _ _ rfl rfl _ _ (ha _) ?_))
      have j1 : IntKind.i64.wrap ((i : Int) + 1) = (i : Int) + 1 := IntWalk.i64_in _ (by omega)
      have j2 : (0 : Int) ≤ (i : Int) + 1 := by omega
      have j3 : (i : Int) + 1 ≤ (n : Int) + 1 := by omega
      have j4 : ((i : Int) + 1).toNat = i + 1 := by omega
      have j5 : (i : Int) ≤ (n : Int) := by omega
      go_region_held3 (fun _ => True) (trivial) (fail)
      go_wp2_with fail
      go_ret
      refine ⟨_, rfl, ownT_of (hRes.out.mono hB) ?_, HB4.out.mono hB⟩
      rw [HF.out]
      have hz : (itsC (List.replicate (n + 1 - i) it0)).length = (n + 1 - i) * 4 := by rw [itsC_length, List.length_replicate]
      have hc1 : c.take (1 * 4) = c := List.take_of_length_le (by rw [HL1.out]; omega)
      have hx1 : (xs.drop (i * 4)).take ((n - i) * 4) = xs.drop (i * 4) := List.take_of_length_le (by rw [List.length_drop, HL.out]; omega)
      rw [hc1, hx1]
      exact ins_grow hi HL.out hz HL1.out
    · obtain ⟨ys, hy, hown1⟩ := own_more Hown.out 1 (by omega)
      have gto := slice_to (P := Tryz.prog) elemT (a := some ⟨g, 0, none⟩) (n := n) (cap := oc) (fun x hx => ⟨g, 0, by injection hx with hx; exact hx.symm⟩) (n + 1) (by omega)
      simp only [Int.natCast_add] at gto
      rw [show ((1 : Nat) : Int) = 1 from rfl] at gto
      have g2 := slice_own (P := Tryz.prog) elemT g (n + 1) oc i (by omega) (by omega)
      have g3 := slice_own1 g (n + 1) oc i (by omega) (by omega)
      obtain ⟨cur, hg, hcs, _⟩ := own_obj hown1
      have hov := overlaps_run (Ne.symm hgh) Hh.out hg (by omega) ((i + 1) * 4)
      obtain ⟨w3, hcp1, hown3, hgr3⟩ := copy_row (P := Tryz.prog) (sT := 22) elemT hown1.drew (own_from hown1.drew i (by omega) (by omega)) (i + 1) (n - i) (oc - (i + 1)) (n - i) (by simp [Nat.min_def]; omega) (by omega) (by decide) (by omega) (fun u hu => Hone.out u (by
        rw [List.drop_append_of_le_length (by rw [HL.out]; omega), List.take_left' (by rw [List.length_drop, HL.out]; omega)] at hu
        exact List.mem_of_mem_drop hu))
      have hb3 : Below B w w3 := ((Below.refl B w).drew).grown hgr3 hB (by intro r hr; injection hr with hr; have := (hown1.lt g rfl).1; omega)
      have hv3 := Rd.grown (Hv.out.drew) hgr3 (fun y hy => by injection hy with hy; subst hy; intro e; injection e with e; exact hgh e.symm)
      obtain ⟨w4, hcp2, hown4, hgr4⟩ := copy_row (P := Tryz.prog) (sT := 22) elemT hown3 hv3 i (n + 1 - i) (oc - i) 1 (by simp [Nat.min_def]; omega) (by decide) (by decide) (by omega) (fun u hu => Hon1.out u (List.mem_of_mem_take hu))
      have hb4 : Below B w w4 := hb3.grown hgr4 (Nat.le_trans hB hb3.size) (by intro r hr; injection hr with hr; have := (hown1.lt g rfl).1; omega)
      have hRes := Lib.hid hown4
      have HB4 := Lib.hid hb4
      have HY := Lib.hid hy
      have hgo : ¬ ((oc : Int) < (n : Int) + 1) := by omega
      have j1 : IntKind.i64.wrap ((i : Int) + 1) = (i : Int) + 1 := IntWalk.i64_in _ (by omega)
      have j2 : (0 : Int) ≤ (i : Int) + 1 := by omega
      have j3 : (i : Int) + 1 ≤ (n : Int) + 1 := by omega
      have j4 : ((i : Int) + 1).toNat = i + 1 := by omega
      have j5 : (i : Int) ≤ (n : Int) := by omega
      clear hb3 hb4 hown1 hown3 hown4 hgr3 hgr4 hv3 hy hcs hg
      go_enter Tryz.func95, Tryz.ntmps95
      go_wp2_with (simp only [hov])
      have j6 : (i : Int) ≤ (n : Int) + 1 := by omega
      go_region_held3 (fun _ => True) (trivial) (fail)
      go_wp2_with fail
      go_ret
      refine ⟨_, rfl, ownT_of hRes.out ?_, HB4.out⟩
      rw [HF.out]
      have hc1 : c.take (1 * 4) = c := List.take_of_length_le (by rw [HL1.out]; omega)
      rw [hc1]
      exact ins_place hi HL.out (by rw [HY.out]) 
end Go.Proofs.YtenkeodfijladaaGreatDoor

namespace Go.Proofs.YtenkeodfijladaaGreatDoor
open Go.RowKit

theorem step_append_run {P : Program} {w : World} {ops : Array Oper} {o : Oper} {a : Act} {K : Act → World → Prop} {Q : Exit → Act → World → Prop} {E : Prop} (hgd : o.guard = none) (s x : Operand) (t tn : TypeId)
    (ho : o.op = .call { callee := .builtin .append, args := #[s, x], argTypes := #[t, tn] }) (vs vx : Value) (hs : a.eval s = vs) (hx : a.eval x = vx)
    (v' : Value) (w' : World) (hr : (Builtin.append_ #[t, tn] o.type #[vs, vx]).run P w = .ok v' w') (h : K (a.put o.dst v') w') :
    if Region.wanted o (yielded ops a.tmps) = true then Oper.wp P o a w K Q else E := by
  have hw : Region.wanted o (yielded ops a.tmps) = true := by simp [Region.wanted, hgd]
  rw [if_pos hw]
  exact Lib.wp_append_run w s x t tn ho vs vx hs hx v' w' hr h
theorem slice_tail {w : World} {B g n cap : Nat} {xs : List Value} (h : w.ownsRow B 77 4 (.slice (some ⟨g, 0, none⟩) n cap) n xs) (k : Nat) (hk : k + 1 ≤ n) :
    ∃ p c', (∀ W kl, (Instr.slice 22 (.slice (some ⟨g, 0, none⟩) n cap) (some (.int kl ((k : Int) + 1))) none none).run Tryz.prog W = .ok (.slice (some p) (n - (k + 1)) c') W) ∧
      Rd w 4 (.slice (some p) (n - (k + 1)) c') (n - (k + 1)) (xs.drop ((k + 1) * 4)) := by
  obtain ⟨_, _, _, hnc⟩ := own_obj h
  by_cases hq : k + 1 < cap
  · exact ⟨_, _, slice_own1 g n cap k hk hq, own_from h (k + 1) hk hq⟩
  · obtain rfl : cap = k + 1 := by omega
    obtain rfl : n = k + 1 := by omega
    refine ⟨⟨g, 0, none⟩, 0, fun W kl => ?_, ?_⟩
    · obtain ⟨h1, h2⟩ := elem_of (P := Tryz.prog) elemT
      rw [run_slice_l W 22 (some ⟨g, 0, none⟩) (k + 1) (k + 1) h1 kl ((k : Int) + 1) (by omega) (by omega), h2]
      have : ((k : Int) + 1).toNat = k + 1 := by omega
      simp [Result.andThen, sliced, this]
    · have hx := h.1
      rw [List.drop_of_length_le (by omega), Nat.sub_self]
      exact ⟨rfl, some ⟨g, 0, none⟩, 0, rfl, Nat.le_refl _, Nat.zero_le _, fun h => (by cases h), fun h => absurd h (by simp)⟩
theorem slice_last (g p cap : Nat) (hc : p + 1 ≤ cap) :
    ∀ W kl kh, (Instr.slice 22 (.slice (some ⟨g, 0, none⟩) p cap) (some (.int kl (p : Int))) (some (.int kh ((p : Int) + 1))) none).run Tryz.prog W = .ok (.slice (some ⟨g, p * 4, none⟩) 1 (cap - p)) W := fun W kl kh => by
  obtain ⟨h1, h2⟩ := elem_of (P := Tryz.prog) elemT
  rw [run_slice_lh W 22 (some ⟨g, 0, none⟩) p cap h1 kl kh (p : Int) ((p : Int) + 1) (by omega) (by omega) (by omega), h2]
  have h3 : ((p : Int) + 1).toNat = p + 1 := by omega
  have h4 : cap ≠ p := by omega
  simp [Result.andThen, sliced, h3, h4, addr_add]
theorem slice_three (a : Option Addr) (n cap i : Nat) (hi : i + 1 ≤ n) (hn : n ≤ cap) :
    ∃ u, ∀ W kl kh km, (Instr.slice 22 (.slice a n cap) (some (.int kl (i : Int))) (some (.int kh ((i : Int) + 1))) (some (.int km (n : Int)))).run Tryz.prog W = .ok u W := by
  obtain ⟨h1, h2⟩ := elem_of (P := Tryz.prog) elemT
  refine ⟨sliced a (i : Int).toNat ((i : Int) + 1).toNat (n : Int).toNat 4, fun W kl kh km => ?_⟩
  rw [run_slice_lhm W 22 a n cap h1 kl kh km (i : Int) ((i : Int) + 1) (n : Int) (by omega) (by omega) (by omega) (by omega), h2]
  rfl
set_option maxHeartbeats 1000000 in
theorem del_any (v : Value) (l : List It) (i B : Nat) (w : World) (hown : OwnT w B v l) (hB : B ≤ w.heap.size) (hi : i < l.length) (hs : l.length ≤ 1000000) :
    Calls Tryz.prog 90 #[v, .int .i64 (i : Int), .int .i64 ((i : Int) + 1)] w fun e w' => ∃ v', e = .returned v' ∧ OwnT w' B v' (l.take i ++ l.drop (i + 1)) ∧ Below B w w' := by
  obtain ⟨oa, oc, rfl, ho1, ho2, ho3⟩ := own_form hown
  have hfin : itsC (l.take i ++ l.drop (i + 1)) = (itsC l).take (i * 4) ++ (itsC l).drop ((i + 1) * 4) := by
    rw [itsC_append, itsC_take, itsC_drop]
  have HF := Lib.hid hfin
  have Hone := Lib.hid (itsC_one' l)
  have hl := itsC_length l
  obtain ⟨p, hp⟩ : ∃ p, l.length = p + 1 := ⟨l.length - 1, by omega⟩
  have hown' : w.ownsRow B 77 4 _ l.length (itsC l) := hown
  clear hown
  have hown := hown'
  clear hown'
  have hlen2 : (l.take i ++ l.drop (i + 1)).length = p := by rw [List.length_append, List.length_take, List.length_drop]; omega
  rw [hp] at hown ho1 hl hs hi ⊢
  generalize itsC l = xs at *
  obtain ⟨g, rfl⟩ : ∃ g, oa = some ⟨g, 0, none⟩ := by
    rcases hown.2 with ⟨e, h0⟩ | ⟨g, _, _, e, _⟩
    · omega
    · injection e with e; exact ⟨g, e⟩
  have gto := slice_to (P := Tryz.prog) elemT (a := some ⟨g, 0, none⟩) (n := p + 1) (cap := oc) (fun x hx => ⟨g, 0, by injection hx with hx; exact hx.symm⟩) i (by omega)
  obtain ⟨q, qc, g1, hrd⟩ := slice_tail hown i hi
  obtain ⟨w3, hap, hown3, hgr3⟩ := app_room (own_take hown i (by omega)).drew hrd.drew (fun u hu => Hone.out u (List.mem_of_mem_drop hu)) (by omega)
  have e1 : i + (p + 1 - (i + 1)) = p := by omega
  rw [e1] at hap hown3
  have hgB := (hown.lt g rfl).1
  have hb3 : Below B w w3 := ((Below.refl B w).drew).grown hgr3 hB (by intro r hr; injection hr with hr; omega)
  obtain ⟨ys, hy, hown4⟩ := own_more hown3 1 (by omega)
  obtain ⟨w5, hcl, hown5, hgr5⟩ := clear_raw hown4 p (by omega)
  have e2 : p + 1 - p = 1 := by omega
  rw [e2] at hcl
  have hb5 : Below B w w5 := hb3.grown hgr5 (Nat.le_trans hB hb3.size) (by intro r hr; injection hr with hr; omega)
  obtain ⟨u3, g3⟩ := slice_three (some ⟨g, 0, none⟩) (p + 1) oc i hi ho1
  simp only [Int.natCast_add] at g3
  rw [show ((1 : Nat) : Int) = 1 from rfl] at g3
  have g2 := slice_last g p oc (by omega)
  have hl3 := hown3.1
  have hown6 := own_take hown5 p (by omega)
  rw [List.take_append_of_le_length (by rw [List.length_take, List.length_append, hl3]; omega), List.take_take, Nat.min_self, List.take_left' hl3] at hown6
  have HR := Lib.hid hown6
  have HB5 := Lib.hid hb5
  have HL2 := Lib.hid hlen2
  have hneq : ((i : Int) == (i : Int) + 1) = false := beq_eq_false_iff_ne.2 (by omega)
  have j1 : IntKind.i64.wrap ((i : Int) + 1) = (i : Int) + 1 := IntWalk.i64_in _ (by omega)
  have hm : oc ≤ 9223372036854775807 := by unfold maxLen at ho2; omega
  clear hown hown3 hown4 hown5 hown6 hgr3 hgr5 hb3 hb5 hrd hl hl3 hlen2 hfin ho3 hp e1 e2 hy
  go_enter Tryz.func90, Tryz.ntmps90
  go_wp2_with fail
  have j2 : (0 : Int) ≤ (i : Int) + 1 := by omega
  have j3 : (i : Int) + 1 ≤ (p : Int) + 1 := by omega
  have j4 : ((i : Int) + 1).toNat = i + 1 := by omega
  have j5 : (i : Int) ≤ (p : Int) + 1 := by omega
  have j6 : (i : Int) ≤ (oc : Int) := by omega
  go_region_held3 (fun _ => True) (trivial) (refine step_append_run rfl (.tmp 22) (.tmp 25) 22 22 rfl _ _ (by simp [Act.eval]) (by simp [Act.eval]) _ _ (hap _) ?_)
  go_wp2_with fail
  go_ret
  exact ⟨_, rfl, ownT_of HR.out HF.out.symm, HB5.out⟩
end Go.Proofs.YtenkeodfijladaaGreatDoor

namespace Go.Proofs.YtenkeodfijladaaGreatDoor
open Go.RowKit

set_option maxHeartbeats 1000000 in
theorem put_any (v : Value) (l : List It) (x : It) (w : World) (h : RdT w v l) (hk : SortedOk l) (hs : l.length ≤ 100000) :
    Calls Tryz.prog 65 #[v, itV x] w fun e w' => ∃ v', e = .returned v' ∧ OwnT w' w.heap.size v' (ins (srt l) x) ∧ Below w.heap.size w w' := by
  have HS := Lib.hid (fun w h => hk v w h)
  have hlen := srt_length l
  have HA := Lib.hid (srt_asc l)
  have HF := Lib.hid (fun v w h => search_any v (srt l) x.key w h (by omega))
  have HIn := Lib.hid (fun v i hb B w h1 h2 h3 => ins_any v (srt l) i x hb B w h1 h2 h3 (by omega))
  have HPl := Lib.hid (fun r (h : Place (srt l) x.key r) => ins_at h (srt_asc l))
  have Hr := Lib.hid h
  obtain ⟨a, cap, rfl, _, _⟩ := h.shape
  generalize srt l = s at *
  generalize ins s x = res at *
  obtain ⟨W0, hW0⟩ : ∃ W0, W0 = w.alloc (.cells #[.int .u64 x.key, .int .u32 x.ck, .int .i64 x.off, .int .i64 x.size] 77) := ⟨_, rfl⟩
  have hb0 : Below w.heap.size w W0 := by rw [hW0]; exact (Below.refl _ _).alloc (Nat.le_refl _) _
  have HB0 := Lib.hid hb0
  have d0 : W0.cell? ⟨w.heap.size, 0, none⟩ = some (.int .u64 x.key) := by rw [hW0]; simp
  have d1 : W0.cell? ⟨w.heap.size, 1, none⟩ = some (.int .u32 x.ck) := by rw [hW0]; simp
  have d2 : W0.cell? ⟨w.heap.size, 2, none⟩ = some (.int .i64 x.off) := by rw [hW0]; simp
  have d3 : W0.cell? ⟨w.heap.size, 3, none⟩ = some (.int .i64 x.size) := by rw [hW0]; simp
  have HW0 := Lib.hid hW0
  have hs0 : w.heap.size ≤ W0.heap.size := hb0.size
  clear h hk hW0 hb0
  go_enter Tryz.func65, Tryz.ntmps65
  go_wp2_with fail
  rw [← HW0.out]
  refine (HS.out _ (Hr.out.below HB0.out)).mono ?_; rintro e w1 ⟨v1, rfl, hown1, hb1⟩
  have HO := Lib.hid hown1
  have HB := Lib.hid hb1
  have e0 := Below.keeps hb1 _ _ d0
  have e1 := Below.keeps hb1 _ _ d1
  have e2 := Below.keeps hb1 _ _ d2
  have e3 := Below.keeps hb1 _ _ d3
  clear hown1 hb1 d0 d1 d2 d3
  go_wp2_with fail
  refine (HF.out _ _ HO.out.rd).mono ?_; rintro e w2 ⟨⟨r, hp, rfl⟩, hb2⟩
  have HB2 := Lib.hid (HB.out.trans (hb2.mono HB.out.size))
  have HO2 := Lib.hid (own_keep HO.out hb2)
  have HP := Lib.hid hp
  have d0 := Below.keeps hb2 _ _ e0
  have d1 := Below.keeps hb2 _ _ e1
  have d2 := Below.keeps hb2 _ _ e2
  have d3 := Below.keeps hb2 _ _ e3
  clear hb2 hp e0 e1 e2 e3
  have HPr := Lib.hid (HPl.out r HP.out)
  obtain ⟨oa, oc, rfl, ho1, ho2, ho3⟩ := own_form HO2.out
  have hs2 : W0.heap.size ≤ w2.heap.size := HB2.out.size
  by_cases hy : r < s.length ∧ (iat s r).key = x.key
  · have HR := Lib.hid (HPr.out.trans (if_pos hy))
    rw [decide_eq_true hy]
    have hrl := hy.1
    obtain ⟨g, rfl⟩ : ∃ g, oa = some ⟨g, 0, none⟩ := by
      rcases HO2.out.2 with ⟨e, h0⟩ | ⟨g, _, _, e, _⟩
      · omega
      · injection e with e; exact ⟨g, e⟩
    have hgB := (HO2.out.lt g rfl).1
    obtain ⟨_, _, e, c0, c1, c2, c3⟩ := (rd_rdT (own_rd HO2.out)).at hrl
    injection e with e; injection e with e1 e2; subst e1 e2
    simp only [Nat.zero_add] at c0 c1 c2 c3
    have f0 := HO2.out.frozenAt (r * 4)
    have f1 := HO2.out.frozenAt (r * 4 + 1)
    have f2 := HO2.out.frozenAt (r * 4 + 2)
    have f3 := HO2.out.frozenAt (r * 4 + 3)
    have HSt := Lib.hid (own_set4 HO2.out r hrl x)
    clear hy
    generalize iat s r = y at *
    generalize hn : s.length = n at *
    go_wp2_with fail
    go_ret
    refine ⟨_, rfl, ?_, HB0.out.trans (((((HB2.out.setCell hgB _).setCell hgB _).setCell hgB _).setCell hgB _).mono hs0)⟩
    rw [HR.out]
    exact (ownT_of HSt.out rfl).mono hs0
  · have HR := Lib.hid (HPr.out.trans (if_neg hy))
    rw [decide_eq_false hy]
    clear hy
    have hne : ∀ k, (Value.slice oa s.length oc).ownBlock = some k → k ≠ w2.heap.size := fun k hk => by have := (HO2.out.lt k hk).2; omega
    have HC := Lib.hid (HIn.out (.slice oa s.length oc) r w2.heap.size W0.heap.size (w2.alloc (.cells (itC x).toArray 77)) (HO2.out.alloc _) (by simp; omega) HP.out.1 (heap_alloc_new w2 _) hne)
    have HBA := Lib.hid (HB2.out.alloc hs2 (.cells (itC x).toArray 77))
    clear hne
    go_wp2_with fail
    refine HC.out.mono ?_; rintro e w3 ⟨v3, rfl, hown3, hb3⟩
    have HO3 := Lib.hid hown3
    have HB3 := Lib.hid (HBA.out.trans hb3)
    clear hown3 hb3
    go_wp2_with fail
    go_ret
    refine ⟨_, rfl, ?_, HB0.out.trans (HB3.out.mono hs0)⟩
    rw [HR.out]
    exact HO3.out.mono hs0
set_option maxHeartbeats 1000000 in
theorem drop_any (v : Value) (l : List It) (key : Int) (w : World) (h : RdT w v l) (hk : SortedOk l) (hs : l.length ≤ 100000) :
    Calls Tryz.prog 62 #[v, .int .u64 key] w fun e w' => ∃ v', e = .returned v' ∧ OwnT w' w.heap.size v' (drp (srt l) key) ∧ Below w.heap.size w w' := by
  have HS := Lib.hid (hk v w h)
  have hlen := srt_length l
  have HF := Lib.hid (fun v w h => search_any v (srt l) key w h (by omega))
  have HDe := Lib.hid (fun v i B w h1 h2 h3 => del_any v (srt l) i B w h1 h2 h3 (by omega))
  have HPl := Lib.hid (fun r (h : Place (srt l) key r) => drp_place h (srt_asc l))
  obtain ⟨a, cap, rfl, _, _⟩ := h.shape
  generalize srt l = s at *
  generalize drp s key = res at *
  clear h hk
  go_enter Tryz.func62, Tryz.ntmps62
  go_wp2_with fail
  refine HS.out.mono ?_; rintro e w1 ⟨v1, rfl, hown1, hb1⟩
  have HO := Lib.hid hown1
  have HB := Lib.hid hb1
  clear hown1 hb1
  go_wp2_with fail
  refine (HF.out _ _ HO.out.rd).mono ?_; rintro e w2 ⟨⟨r, hp, rfl⟩, hb2⟩
  have HB2 := Lib.hid (bstep HB.out hb2)
  have HO2 := Lib.hid (own_keep HO.out hb2)
  have HP := Lib.hid hp
  clear hb2 hp
  have HPr := Lib.hid (HPl.out r HP.out)
  have hs2 : w.heap.size ≤ w2.heap.size := HB2.out.size
  by_cases hy : r < s.length ∧ (iat s r).key = key
  · have HR := Lib.hid (HPr.out.trans (if_pos hy))
    rw [decide_eq_true hy]
    have hrl := hy.1
    have HC := Lib.hid (HDe.out v1 r w.heap.size w2 HO2.out hs2 hrl)
    clear hy
    go_wp2_with fail
    refine HC.out.mono ?_; rintro e w3 ⟨v3, rfl, hown3, hb3⟩
    have HO3 := Lib.hid hown3
    have HB3 := Lib.hid (HB2.out.trans hb3)
    clear hown3 hb3
    go_wp2_with fail
    go_ret
    refine ⟨_, rfl, ?_, HB3.out⟩
    rw [HR.out]
    exact HO3.out
  · have HR := Lib.hid (HPr.out.trans (if_neg hy))
    rw [decide_eq_false hy]
    clear hy
    go_wp2_with fail
    go_ret
    refine ⟨_, rfl, ?_, HB2.out⟩
    rw [HR.out]
    exact HO2.out
end Go.Proofs.YtenkeodfijladaaGreatDoor

namespace Go.Proofs.YtenkeodfijladaaGreatDoor
open Go.RowKit

def lenO (y : It) : Nat := szN y.size.toNat
def delM (M : Mp) (key : Int) : Mp :=
  match getM M key with
  | none => M
  | some y => if M.garb + (lenO y : Int) ≤ 1099511627776 then ⟨fun i => if i = strp key then drp (M.st i) key else M.st i, M.live - (lenO y : Int), M.garb + (lenO y : Int)⟩ else M
theorem lengthN_any (y : It) (hy : 0 ≤ y.size) (w : World) : Calls Tryz.prog 61 #[itV y] w fun e w' => e = .returned (.int .i64 (lenO y : Int)) ∧ Below w.heap.size w w' :=
  (length_any y w).mono fun e w' ⟨⟨n, he, _, h⟩, hb⟩ => ⟨by rw [he, h hy]; rfl, hb⟩
theorem ord_gt {a b : Int} (ha : Fx.Small a) (hb : Fx.Small b) : (FloatKind.f64.format.order (Fx.fb a) (Fx.fb b) == some Ordering.gt) = decide (b < a) := by
  have h : FloatKind.f64.format.order (Fx.fb a) (Fx.fb b) = some (compare a b) := Fx.order_fb a b ha hb
  rw [h]
  show (some (compareOfLessAndEq a b) == some Ordering.gt) = _
  unfold compareOfLessAndEq
  by_cases h1 : a < b
  · rw [if_pos h1, decide_eq_false (by omega)]; rfl
  · rw [if_neg h1]
    by_cases h2 : a = b
    · rw [if_pos h2, decide_eq_false (by omega)]; rfl
    · rw [if_neg h2, decide_eq_true (by omega)]; rfl
theorem getM_some {M : Mp} {key : Int} {y : It} (h : getM M key = some y) : vldM M = true ∧ y ∈ M.st (strp key) ∧ y.key = key ∧ 0 ≤ y.size := by
  unfold getM at h
  split at h
  · rename_i hv
    obtain ⟨h1, h2⟩ := fnd_some_mem h
    exact ⟨hv, h1, h2, vld_size (((vldM_iff M).1 hv).ok _ (strp_lt key)) y h1⟩
  · cases h
theorem lenO_le (y : It) : lenO y ≤ 4127 := szN_le _
set_option maxRecDepth 100000 in
set_option maxHeartbeats 8000000 in
theorem deleteM_any (s : Sl) (M : Mp) (key : Int) (w : World) (h : RdM w s M.st) (hs : ∀ i, i < 8 → (M.st i).length ≤ 10000) :
    Calls Tryz.prog 31 #[mapV s M.live M.garb, .int .u64 key] w fun e w' => (∃ s', e = .returned (mapV s' (delM M key).live (delM M key).garb) ∧ OwnM w' w.heap.size s' (delM M key).st) ∧ Below w.heap.size w w' := by
  have HG := Lib.hid (fun s W h => getM_any s M key W h hs)
  have HBx := Lib.hid ((BoxM.new w s M.live M.garb 41).below (below_map (w.alloc (.cells (mapC s M.live M.garb) 41)) Sl.nil 0 0 41))
  have HBy := Lib.hid (BoxM.new (w.alloc (.cells (mapC s M.live M.garb) 41)) Sl.nil 0 0 41)
  have HB0 := Lib.hid (bstep (below_map w s M.live M.garb 41) (below_map (w.alloc (.cells (mapC s M.live M.garb) 41)) Sl.nil 0 0 41))
  rw [show (w.alloc (.cells (mapC s M.live M.garb) 41)).heap.size = w.heap.size + 1 by simp] at HBy
  have HC := Lib.hid (fun W h => cloneM_any s M.live M.garb M.st W h (fun i hi => Nat.le_trans (hs i hi) (by decide)))
  have Hr := Lib.hid h
  have hk8 := strp_lt key
  have HS := Lib.hid (fun W => stripe_any key W)
  have HSo := Lib.hid (fun y (hy : getM M key = some y) => (⟨live_small ((vldM_iff M).1 (getM_some hy).1) hs, ((vldM_iff M).1 (getM_some hy).1).g0, ((vldM_iff M).1 (getM_some hy).1).g1, (getM_some hy).2.2.2, srt_of_asc (vld_asc (((vldM_iff M).1 (getM_some hy).1).ok _ hk8))⟩ : _ ∧ _ ∧ _ ∧ _ ∧ _))
  have HDr := Lib.hid (fun v W h => drop_any v (M.st (strp key)) key W h (sorted_all _ (Nat.le_trans (hs _ hk8) (by decide))) (Nat.le_trans (hs _ hk8) (by decide)))
  have HW0 := Lib.hid (show getM M key = none → delM M key = M from fun h => by unfold delM; rw [h])
  have HW1 := Lib.hid (show ∀ y, getM M key = some y → M.garb + (lenO y : Int) ≤ 1099511627776 → delM M key = ⟨fun i => if i = strp key then drp (M.st i) key else M.st i, M.live - (lenO y : Int), M.garb + (lenO y : Int)⟩ from fun y h h2 => by unfold delM; rw [h]; exact if_pos h2)
  have HW2 := Lib.hid (show ∀ y, getM M key = some y → ¬ M.garb + (lenO y : Int) ≤ 1099511627776 → delM M key = M from fun y h h2 => by unfold delM; rw [h]; exact if_neg h2)
  clear h hs
  generalize getM M key = o at *
  generalize delM M key = WM at *
  generalize strp key = k at *
  obtain ⟨f, L, G⟩ := M
  dsimp only at *
  go_enter Tryz.func31, Tryz.ntmps31
  go_wp2_with fail
  refine (HC.out _ (Hr.out.below HB0.out)).mono ?_; rintro e w1 ⟨⟨s1, rfl, hown1⟩, hb1⟩
  have HX1 := Lib.hid (HBx.out.below hb1)
  have HY1 := Lib.hid (HBy.out.below hb1)
  have HB1 := Lib.hid (bstep HB0.out hb1)
  have HO1 := Lib.hid (hown1.mono (show w.heap.size + 2 ≤ _ by simp))
  have c0 := HX1.out.c0
  have c1 := HX1.out.c1
  have c2 := HX1.out.c2
  have c3 := HX1.out.c3
  have c4 := HX1.out.c4
  have c5 := HX1.out.c5
  have c6 := HX1.out.c6
  have c7 := HX1.out.c7
  have c8 := HX1.out.cl
  have c9 := HX1.out.cg
  have cF := HX1.out.f
  clear hown1 hb1 HC HBx HBy HB0
  go_upto_region 2 with fail
  change Code.wp _ _ _ _ (putM w1 w.heap.size s1 L G)
  obtain ⟨V, hV⟩ : ∃ V, putM w1 w.heap.size s1 L G = V := ⟨_, rfl⟩
  have HXv := Lib.hid (show BoxM V w.heap.size s1 L G from hV ▸ HX1.out.all s1 L G)
  have HYv := Lib.hid (show BoxM V (w.heap.size + 1) Sl.nil 0 0 from hV ▸ HY1.out.putM_ne (by omega) s1 L G)
  have HBv := Lib.hid (show Below w.heap.size w V from hV ▸ putM_below HB1.out (Nat.le_refl _) s1 L G)
  have HOv := Lib.hid (show OwnM V (w.heap.size + 2) s1 f from hV ▸ HO1.out.putM (by omega) s1 L G)
  rw [hV]
  clear hV c0 c1 c2 c3 c4 c5 c6 c7 c8 c9 cF HX1 HY1 HB1 HO1
  have c0 := HXv.out.c0
  have c1 := HXv.out.c1
  have c2 := HXv.out.c2
  have c3 := HXv.out.c3
  have c4 := HXv.out.c4
  have c5 := HXv.out.c5
  have c6 := HXv.out.c6
  have c7 := HXv.out.c7
  have c8 := HXv.out.cl
  have c9 := HXv.out.cg
  have cF := HXv.out.f
  go_wp2_with fail
  refine (HS.out _).mono ?_; rintro e w2 ⟨rfl, rfl⟩
  go_wp2_with fail
  refine (HG.out s1 V HOv.out.rd).mono ?_; rintro e w2 ⟨rfl, hb2⟩
  have HX2 := Lib.hid ((HXv.out.below hb2).below (below_box w2 (o.getD it0)))
  have HY2 := Lib.hid ((HYv.out.below hb2).below (below_box w2 (o.getD it0)))
  have HB2 := Lib.hid (bstep (bstep HBv.out hb2) (below_box w2 (o.getD it0)))
  have HO2 := Lib.hid ((HOv.out.keep hb2).keep (below_box w2 (o.getD it0)))
  have HI2 := Lib.hid (BoxI.new w2 (o.getD it0))
  clear hb2 c0 c1 c2 c3 c4 c5 c6 c7 c8 c9 cF HXv HYv HBv HOv HG HS
  cases o with
  | none =>
    have HW := Lib.hid (HW0.out rfl)
    go_upto_region 5 with fail
    obtain ⟨V3, hV3⟩ : ∃ V3, w2.alloc (boxC it0) = V3 := ⟨_, rfl⟩
    rw [show w2.alloc (boxC ((none : Option It).getD it0)) = V3 from hV3] at HX2 HY2 HB2 HO2
    rw [hV3]
    clear hV3 HI2
    have c0 := HX2.out.c0
    have c1 := HX2.out.c1
    have c2 := HX2.out.c2
    have c3 := HX2.out.c3
    have c4 := HX2.out.c4
    have c5 := HX2.out.c5
    have c6 := HX2.out.c6
    have c7 := HX2.out.c7
    have c8 := HX2.out.cl
    have c9 := HX2.out.cg
    have cF := HX2.out.f
    have d0 := HY2.out.c0
    have d1 := HY2.out.c1
    have d2 := HY2.out.c2
    have d3 := HY2.out.c3
    have d4 := HY2.out.c4
    have d5 := HY2.out.c5
    have d6 := HY2.out.c6
    have d7 := HY2.out.c7
    have d8 := HY2.out.cl
    have d9 := HY2.out.cg
    have dF := HY2.out.f
    go_wp2_with fail
    change bodyPost _ _ _ _ _ (putM V3 (w.heap.size + 1) s1 L G)
    have hby := HY2.out.all s1 L G
    have HRq := Lib.hid ((HO2.out.putM (show w.heap.size + 1 < w.heap.size + 2 by omega) s1 L G).mono (show w.heap.size ≤ w.heap.size + 2 by omega))
    have HBz := Lib.hid (putM_below HB2.out (show w.heap.size ≤ w.heap.size + 1 by omega) s1 L G)
    generalize putM V3 (w.heap.size + 1) s1 L G = V9 at *
    exact bodyPost_ret (v := mapV s1 L G) (by simp [results, Tryz.results31, go_sem, hby.c0, hby.c1, hby.c2, hby.c3, hby.c4, hby.c5, hby.c6, hby.c7, hby.cl, hby.cg]) rfl ⟨⟨_, by rw [HW.out], by rw [HW.out]; exact HRq.out⟩, HBz.out⟩
  | some y =>
    obtain ⟨⟨hLs, hL0, hL1⟩, hG0, hG1, hy0, hsk⟩ := HSo.out y rfl
    have HY0 := Lib.hid hy0
    have HSk := Lib.hid hsk
    have HW1y := Lib.hid (HW1.out y rfl)
    have HW2y := Lib.hid (HW2.out y rfl)
    clear HSo HW0 HW1 HW2 hy0 hsk
    go_upto_region 6 with fail
    obtain ⟨V3, hV3⟩ : ∃ V3, w2.alloc (boxC y) = V3 := ⟨_, rfl⟩
    rw [show w2.alloc (boxC ((some y).getD it0)) = V3 from hV3] at HX2 HY2 HB2 HO2 HI2
    rw [show (some y).getD it0 = y from rfl] at HI2
    rw [hV3]
    clear hV3
    have hlen := lenO_le y
    have HCt := Lib.hid (fun u : BelowBy V3 => counters_any s1 L G u.w')
    have HLn := Lib.hid (fun u : BelowBy V3 => lengthN_any y HY0.out u.w')
    have HTu := Lib.hid (fun u : BelowBy V3 => turned_any (lenO y) (by omega) u.w')
    generalize lenO y = n at *
    have hadd := fun W => csum_fb (a := L) (b := G) (c := -(n : Int)) (d := (n : Int)) hLs (small_of (by omega) (by omega)) (small_of (by omega) (by omega)) (small_of (by omega) (by omega)) (small_of (by omega) (by omega)) (small_of (by omega) (by omega)) 98 W
    have hgt := ord_gt (a := G + (n : Int)) (b := 1099511627776) (small_of (by omega) (by omega)) (small_of (by omega) (by omega))
    rw [show Fx.fb 1099511627776 = 4787326403894837248 from rfl] at hgt
    have HWi := Lib.hid (fun s W => with_any s L G (L + -(n : Int)) (G + (n : Int)) (small_of (by omega) (by omega)) (small_of (by omega) (by omega)) W)
    have e : L + -(n : Int) = L - (n : Int) := by omega
    rw [e] at hadd HWi
    clear e
    have c0 := HX2.out.c0
    have c1 := HX2.out.c1
    have c2 := HX2.out.c2
    have c3 := HX2.out.c3
    have c4 := HX2.out.c4
    have c5 := HX2.out.c5
    have c6 := HX2.out.c6
    have c7 := HX2.out.c7
    have c8 := HX2.out.cl
    have c9 := HX2.out.cg
    have cF := HX2.out.f
    have i0 := HI2.out.t.c0
    have i1 := HI2.out.t.c1
    have i2 := HI2.out.t.c2
    have i3 := HI2.out.t.c3
    have iF := HI2.out.f
    have f0 := cell_by c0
    have f1 := cell_by c1
    have f2 := cell_by c2
    have f3 := cell_by c3
    have f4 := cell_by c4
    have f5 := cell_by c5
    have f6 := cell_by c6
    have f7 := cell_by c7
    have f8 := cell_by c8
    have f9 := cell_by c9
    have k0 := cell_by i0
    have k1 := cell_by i1
    have k2 := cell_by i2
    have k3 := cell_by i3
    clear c0 c1 c2 c3 c4 c5 c6 c7 c8 c9 cF i0 i1 i2 i3 iF
    refine wp_region_below (by kernel_rfl) (by kernel_rfl) ?_
    repeat (go_big_quiet_step ((first | exact calls_by (HCt.out _) | exact calls_by (HLn.out _) | exact calls_by (HTu.out _))))
    refine wpQuiet_nil ?_
    intro _ hw'
    obtain ⟨u, hw'⟩ := hw'
    subst hw'
    have HX3 := Lib.hid (HX2.out.below u.h)
    have HY3 := Lib.hid (HY2.out.below u.h)
    have HB3 := Lib.hid (bstep HB2.out u.h)
    have HO3 := Lib.hid (HO2.out.keep u.h)
    generalize u.w' = w3 at *
    clear f0 f1 f2 f3 f4 f5 f6 f7 f8 f9 k0 k1 k2 k3 HCt HLn HTu hadd HX2 HY2 HB2 HO2 HI2
    by_cases hgo : G + (n : Int) ≤ 1099511627776
    · have HW := Lib.hid (HW1y.out hgo)
      rw [decide_eq_false (show ¬ (1099511627776 < G + (n : Int)) by omega)] at hgt
      have hvk : s1.v k = .slice (s1.a k) (s1.n k) (s1.c k) := rfl
      have ck := HX3.out.c k hk8
      have HDk := Lib.hid (HDr.out _ w3 (HO3.out k hk8).rd)
      rw [HSk.out] at HDk
      rw [hvk] at ck HDk
      clear hvk
      go_wp2_with fail
      refine HDk.out.mono ?_; rintro e w4 ⟨v4, rfl, hown4, hb4⟩
      have HX4 := Lib.hid (HX3.out.below hb4)
      have HY4 := Lib.hid (HY3.out.below hb4)
      have HB4 := Lib.hid (bstep HB3.out hb4)
      have HO4 := Lib.hid (HO3.out.keep hb4)
      have HN4 := Lib.hid (hown4.mono (show w.heap.size + 2 ≤ w3.heap.size from HY3.out.lt))
      obtain ⟨va, vc, hv4, _⟩ := own_form hown4
      subst hv4
      clear hown4 hb4 HDk ck HX3 HY3 HB3 HO3
      have ck := HX4.out.c k hk8
      have cf := HX4.out.f k
      have hvk : s1.v k = .slice (s1.a k) (s1.n k) (s1.c k) := rfl
      rw [hvk] at ck
      generalize (drp (f k) key).length = dn at *
      go_upto_region 10 with fail
      obtain ⟨V5, hV5⟩ : ∃ V5, w4.setCell ⟨w.heap.size, k, none⟩ (.slice va dn vc) = V5 := ⟨_, rfl⟩
      have HX5 := Lib.hid (show BoxM V5 w.heap.size (s1.set k va dn vc) L G from hV5 ▸ HX4.out.setS hk8 va dn vc)
      have HY5 := Lib.hid (show BoxM V5 (w.heap.size + 1) Sl.nil 0 0 from hV5 ▸ HY4.out.set_ne (p := ⟨w.heap.size, k, none⟩) (show w.heap.size ≠ w.heap.size + 1 by omega) _)
      have HB5 := Lib.hid (show Below w.heap.size w V5 from hV5 ▸ HB4.out.setCell (p := ⟨w.heap.size, k, none⟩) (Nat.le_refl _) _)
      have HO5 := Lib.hid (show OwnM V5 (w.heap.size + 2) (s1.set k va dn vc) (fun i => if i = k then drp (f k) key else f i) from hV5 ▸ OwnM.set (fun i hi => own_set_lo (HO4.out i hi) (p := ⟨w.heap.size, k, none⟩) (show w.heap.size < w.heap.size + 2 by omega) _) (show OwnT _ _ _ (drp (f k) key) from ownT_of (own_set_lo HN4.out (p := ⟨w.heap.size, k, none⟩) (show w.heap.size < w.heap.size + 2 by omega) _) rfl))
      rw [hV5]
      clear hV5 ck cf hvk HX4 HY4 HB4 HO4 HN4
      have hfe : (fun i => if i = k then drp (f k) key else f i) = (fun i => if i = k then drp (f i) key else f i) := funext fun i => by
        by_cases e : i = k
        · rw [if_pos e, if_pos e, e]
        · rw [if_neg e, if_neg e]
      rw [hfe] at HO5
      clear hfe
      generalize s1.set k va dn vc = s2 at *
      have c0 := HX5.out.c0
      have c1 := HX5.out.c1
      have c2 := HX5.out.c2
      have c3 := HX5.out.c3
      have c4 := HX5.out.c4
      have c5 := HX5.out.c5
      have c6 := HX5.out.c6
      have c7 := HX5.out.c7
      have c8 := HX5.out.cl
      have c9 := HX5.out.cg
      have cF := HX5.out.f
      go_wp2_with fail
      refine (HWi.out s2 V5).mono ?_; rintro e w6 ⟨rfl, hb6⟩
      have HX6 := Lib.hid (HX5.out.below hb6)
      have HY6 := Lib.hid (HY5.out.below hb6)
      have HB6 := Lib.hid (bstep HB5.out hb6)
      have HO6 := Lib.hid (HO5.out.keep hb6)
      clear hb6 c0 c1 c2 c3 c4 c5 c6 c7 c8 c9 cF
      generalize L - (n : Int) = L2 at *
      generalize G + (n : Int) = G2 at *
      have c0 := HX6.out.c0
      have c1 := HX6.out.c1
      have c2 := HX6.out.c2
      have c3 := HX6.out.c3
      have c4 := HX6.out.c4
      have c5 := HX6.out.c5
      have c6 := HX6.out.c6
      have c7 := HX6.out.c7
      have c8 := HX6.out.cl
      have c9 := HX6.out.cg
      have cF := HX6.out.f
      have d0 := HY6.out.c0
      have d1 := HY6.out.c1
      have d2 := HY6.out.c2
      have d3 := HY6.out.c3
      have d4 := HY6.out.c4
      have d5 := HY6.out.c5
      have d6 := HY6.out.c6
      have d7 := HY6.out.c7
      have d8 := HY6.out.cl
      have d9 := HY6.out.cg
      have dF := HY6.out.f
      go_wp2_with fail
      change bodyPost _ _ _ _ _ (putM w6 (w.heap.size + 1) s2 L2 G2)
      have hby := HY6.out.all s2 L2 G2
      have HRq := Lib.hid ((HO6.out.putM (show w.heap.size + 1 < w.heap.size + 2 by omega) s2 L2 G2).mono (show w.heap.size ≤ w.heap.size + 2 by omega))
      have HBz := Lib.hid (putM_below HB6.out (show w.heap.size ≤ w.heap.size + 1 by omega) s2 L2 G2)
      generalize putM w6 (w.heap.size + 1) s2 L2 G2 = V9 at *
      exact bodyPost_ret (v := mapV s2 L2 G2) (by simp [results, Tryz.results31, go_sem, hby.c0, hby.c1, hby.c2, hby.c3, hby.c4, hby.c5, hby.c6, hby.c7, hby.cl, hby.cg]) rfl ⟨⟨_, by rw [HW.out], by rw [HW.out]; exact HRq.out⟩, HBz.out⟩
    · have HW := Lib.hid (HW2y.out (by omega))
      rw [decide_eq_true (show 1099511627776 < G + (n : Int) by omega)] at hgt
      have c0 := HX3.out.c0
      have c1 := HX3.out.c1
      have c2 := HX3.out.c2
      have c3 := HX3.out.c3
      have c4 := HX3.out.c4
      have c5 := HX3.out.c5
      have c6 := HX3.out.c6
      have c7 := HX3.out.c7
      have c8 := HX3.out.cl
      have c9 := HX3.out.cg
      have cF := HX3.out.f
      have d0 := HY3.out.c0
      have d1 := HY3.out.c1
      have d2 := HY3.out.c2
      have d3 := HY3.out.c3
      have d4 := HY3.out.c4
      have d5 := HY3.out.c5
      have d6 := HY3.out.c6
      have d7 := HY3.out.c7
      have d8 := HY3.out.cl
      have d9 := HY3.out.cg
      have dF := HY3.out.f
      go_wp2_with fail
      change bodyPost _ _ _ _ _ (putM w3 (w.heap.size + 1) s1 L G)
      have hby := HY3.out.all s1 L G
      have HRq := Lib.hid ((HO3.out.putM (show w.heap.size + 1 < w.heap.size + 2 by omega) s1 L G).mono (show w.heap.size ≤ w.heap.size + 2 by omega))
      have HBz := Lib.hid (putM_below HB3.out (show w.heap.size ≤ w.heap.size + 1 by omega) s1 L G)
      generalize putM w3 (w.heap.size + 1) s1 L G = V9 at *
      exact bodyPost_ret (v := mapV s1 L G) (by simp [results, Tryz.results31, go_sem, hby.c0, hby.c1, hby.c2, hby.c3, hby.c4, hby.c5, hby.c6, hby.c7, hby.cl, hby.cg]) rfl ⟨⟨_, by rw [HW.out], by rw [HW.out]; exact HRq.out⟩, HBz.out⟩
end Go.Proofs.YtenkeodfijladaaGreatDoor
