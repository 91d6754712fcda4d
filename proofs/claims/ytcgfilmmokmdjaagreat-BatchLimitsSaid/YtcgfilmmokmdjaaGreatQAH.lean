/- A part of the walk. -/
import Derived.StillTailTactics
import Derived.Deep.Quiet
import Derived.BigQuiet
import Derived.Test.YtcgfilmmokmdjaaGreatBase
import Derived.Test.YtcgfilmmokmdjaaGreatQAG
import Derived.Test.YtcgfilmmokmdjaaGreatQAF
import Derived.Laws.Externs
import Derived.Test.YtcgfilmmokmdjaaGreatQAC
set_option linter.all false
set_option maxRecDepth 100000
set_option maxHeartbeats 32000000
namespace Go.Proofs.YtcgfilmmokmdjaaGreat
open Go
section
variable {P : Program} {ops : Array Oper} {md : Region.Mode} {C : World → Prop}
def hd (P : Program) (md : Region.Mode) (ops : Array Oper) (C : World → Prop) (n : Nat) (L : Array Bool → Act → Prop) : Nat → Array Bool → Act → Prop
 | 0, s, a => L s a
 | f + 1, s, a => Region.ready md ops s ≠ [] ∧ ∀ i ∈ Region.ready md ops s, i < n ∧ qOp P ops C i (hd P md ops C n L f (s.setIfInBounds i true)) a
theorem zHf {n g : Nat} {L : Array Bool → Act → Prop} {Q : Exit → Act → World → Prop} (hL : ∀ s a w, C w → L s a → wpAny P md ops Q g s a w) :
  ∀ (f : Nat) (s : Array Bool) (a : Act) (w : World), C w → hd P md ops C n L f s a → wpAny P md ops Q (f + g) s a w
 | 0, s, a, w, hw, h => by rw [Nat.zero_add]; exact hL _ _ _ hw h
 | f + 1, s, a, w, hw, h => by
  rw [show f + 1 + g = (f + g) + 1 by omega];exact ⟨fun e => absurd e h.1, fun i hi => wpOp_of_qOp hw (fun a' w' hw' h' => zHf hL f _ a' w' hw' h') (h.2 i hi).2⟩
theorem zJD {n i : Nat} {o : Oper} {v : Value} {L : Array Bool → Act → Prop} (hi : ops[i]? = some o) (hsel : ∀ (j : Nat) (o : Oper) cs b, ops[j]? = some o → o.op ≠ .select cs b)
  (hs : Region.sinkB md ops n = true) (hc : Region.chainB md ops n = true) (hn : n < ops.size) (hin : i < n) (hL : ∀ s a, L s a → ∀ j ∈ Region.ready md ops s, n ≤ j)
  (f : Nat) : ∀ (s : Array Bool) (a : Act), HeadInv md ops n s →
   (∀ j oj, ops[j]? = some oj → j ≠ i → s.getD j true = false → (∀ e ∈ oj.after, Region.binds md e = true → e.on ≠ i) → o.apart ops oj = true) →
   i ∈ Region.ready md ops s → YieldsIn P ops C o v a → hd P md ops C n L f (s.setIfInBounds i true) (a.put o.dst v) → hd P md ops C n L (f + 1) s a := by
 induction f with
 | zero =>
  intro s a inv _ hr hy H;refine ⟨(fun e => by rw [e] at hr; cases hr), fun j hj => ?_⟩;have hjn : j < n := Nat.lt_of_not_le fun h => tail_waits hs hc hn inv _ i rfl hin (mem_ready.1 hr).1 j h hj
  refine ⟨hjn, ?_⟩
  by_cases e : j = i
  ·
   subst e; exact hy.qOp hi H
  have := hL _ _ H j (ready_mono hj e); omega
 | succ f ih =>
  intro s a inv hfree hr hy H;refine ⟨(fun e => by rw [e] at hr; cases hr), fun j hj => ?_⟩;have hun := (mem_ready.1 hr).1;have hjn : j < n := Nat.lt_of_not_le fun h => tail_waits hs hc hn inv _ i rfl hin hun j h hj
  refine ⟨hjn, ?_⟩
  by_cases e : j = i
  ·
   subst e; exact hy.qOp hi H
  obtain ⟨hjun, oj, hoj, hall⟩ := mem_ready.1 hj;have hno : ∀ e ∈ oj.after, Region.binds md e = true → e.on ≠ i := fun x hx hb heq => by
   have h1 := hall x hx hb;rw [heq, getD_both hun] at h1
   cases h1
  have h2 := qOp_put hoj (hfree j oj hoj e hjun hno) (fun cs b => hsel i o cs b hi) (fun cs b => hsel j oj cs b hoj) hy (H.2 j (ready_mono hj e)).2;refine qOp_mono (fun a' h3 => ih (s.setIfInBounds j true) a' (inv.set hj hjn) (fun k ok hk hki hk' hno' => hfree k ok hk hki ?_ hno') (ready_mono hr (Ne.symm e)) h3.1 ?_) h2
  ·
   by_cases hjk : j = k
   ·
    subst hjk; exact hjun
   rw [getD_set_ne true hjk] at hk'; exact hk'
  rw [Array.setIfInBounds_comm _ _ e]; exact h3.2
theorem zFe {n g : Nat} {R : Act → Prop} (hsel : Region.noSelect ops = true) (hs : Region.sinkB md ops n = true) (hc : Region.chainB md ops n = true) (hn : n < ops.size) :
  ∀ (l : List Oper) (k : Nat) (s : Array Bool) (a : Act), (∀ j, j < l.length → l[j]? = ops[k + j]?) → k + l.length = n → HeadInv md ops n s →
  Region.lexHead md ops g l.length k s = true → wpQuiet P ops C R l a → hd P md ops C n (fun s' a' => Region.seqB md ops g n s' = true ∧ R a') l.length s a
 | [], k, s, a, _, hk, _, hB, h => by
  obtain rfl : k = n := by simpa using hk
  exact ⟨by simpa [Region.lexHead] using hB, h⟩
 | o :: l, k, s, a, hl, hk, inv, hB, h => by
  have h0 : ops[k]? = some o := by simpa using (hl 0 (by simp)).symm
  simp only [List.length_cons, Region.lexHead, Bool.and_eq_true] at hB;obtain ⟨⟨hr, hf⟩, hB'⟩ := hB;have hkn : k < n := by simp only [List.length_cons] at hk; omega
  have hr' : k ∈ Region.ready md ops s := by simpa using hr
  have hq : qOp P ops C k (wpQuiet P ops C R l) a := by unfold qOp; simp only [h0]; exact h
  obtain ⟨v, hy, hK⟩ := yieldsIn_of_qOp h0 hq;exact zJD h0 (Region.noSelect_spec hsel) hs hc hn hkn (fun s' a' h' => seqB_ready h'.1) l.length s a inv (Region.free_spec h0 hf) hr' hy
   (zFe hsel hs hc hn l (k + 1) _ _ (fun j hj => by have := hl (j + 1) (by simp; omega); simpa [Nat.add_assoc, Nat.add_comm 1 j] using this) (by simp only [List.length_cons] at hk; omega) (inv.set hr' hkn) hB' hK)
theorem ur {id : Nat} {Q : Exit → Act → World → Prop} {a : Act} {w : World} {l : List Oper} (n : Nat) (hm : P.follows .mixedOrders = true) (hB : Region.lexTailB .any l.toArray n = true) (hw : C w.drew)
  (h : wpQuiet P l.toArray C (fun a' => ∀ w', C w' → wpList P l.toArray Q (l.drop n) a' w') (l.take n) a) : (Code.region id l.toArray true).wp P Q a w := by
 simp only [Region.lexTailB, Bool.and_eq_true, decide_eq_true_eq] at hB;obtain ⟨⟨⟨⟨hsel, hn⟩, hs⟩, hc⟩, hlex⟩ := hB;have hn' : n < l.length := by simpa using hn
 have htl : (l.take n).length = n := by simp; omega
 have hdl : (l.drop n).length = l.toArray.size - n := by simp
 have inv0 : HeadInv .any l.toArray n (Array.replicate l.toArray.size false) :=
  ⟨by simp, fun j oj _ hl => (by rw [getD_replicate_false] at hl; cases hl), fun t _ ht => getD_in (by simpa using ht) (getD_replicate_false _ _)⟩
 have H := zFe (md := .any) (g := l.toArray.size - n) hsel hs hc hn (l.take n) 0 _ a (fun j hj => by
  have hj' : j < n := by rw [htl] at hj; exact hj
  simp [hj']) (by simpa using htl) inv0 (by rw [htl]; exact hlex) h
 refine wp_region_any hm ?_
 have := zHf (Q := Q) (g := l.toArray.size - n) (fun s a' w' hw' hL => by
  have := wpAny_of_seq (md := .any) (Q' := Q) (l.drop n) n s a' w' (fun j => by simp [List.getElem?_drop]) (by rw [hdl]; exact hL.1) (hL.2 w' hw')
  rwa [hdl] at this) _ _ _ w.drew hw H
 rw [htl, show n + (l.toArray.size - n) = l.toArray.size by omega] at this;exact this
end
theorem uy {P : Program} {id : Nat} {Q : Exit → Act → World → Prop} {a : Act} {w : World} {l : List Oper} (n : Nat) (hm : P.follows .mixedOrders = true) (hB : Region.lexTailB .any l.toArray n = true)
  (h : wpQuiet P l.toArray (fun w' => ∃ p : BelowBy w, w' = p.w') (fun a' => ∀ w', (∃ p : BelowBy w, w' = p.w') → wpList P l.toArray Q (l.drop n) a' w') (l.take n) a) : (Code.region id l.toArray true).wp P Q a w :=
 ur (C := fun w' => ∃ p : BelowBy w, w' = p.w') n hm hB ⟨⟨w.drew, ⟨rfl, rfl, rfl, Nat.le_refl _, fun _ _ => rfl⟩⟩, rfl⟩ h
end Go.Proofs.YtcgfilmmokmdjaaGreat
namespace Go.Proofs.YtcgfilmmokmdjaaGreat
open Go.RowKit
def yh (M : Mp) (n : Int) : Mp := if yX M = true ∧ 0 ≤ n ∧ n ≤ 1099511627776 - M.garb then ⟨M.st, M.live, M.garb + n⟩ else M
theorem uf {M : Mp} (h : VldM M) (hs : ∀ i, i < 8 → (M.st i).length ≤ 10000) : Fx.Small M.live ∧ 0 ≤ M.live ∧ M.live ≤ 400000000 := by
 have h1 := us hs;have h2 := tI (ws M);have h3 := h.lv;have : (ws M).length * 4127 ≤ 80000 * 4127 := Nat.mul_le_mul_right _ h1;unfold Fx.Small;rw [Fx.p53];omega
theorem zn {a : Int} (h1 : -9007199254740991 ≤ a) (h2 : a ≤ 9007199254740991) : Fx.Small a := by
 unfold Fx.Small; rw [Fx.p53]; omega
theorem zAI {a b c d : Int} (ha : Fx.Small a) (hb : Fx.Small b) (hc : Fx.Small c) (hd : Fx.Small d) (hac : Fx.Small (a + c)) (hbd : Fx.Small (b + d)) (t : TypeId) (W : World) :
  (binOp .add t (.complex .f64 (Fx.fb a) (Fx.fb b)) (.complex .f64 (Fx.fb c) (Fx.fb d))).run Tryz.prog W = .ok (.complex .f64 (Fx.fb (a + c)) (Fx.fb (b + d))) W :=
 run_complex_sum W .add (.inl rfl) t .f64 _ _ _ _ _ _ (by
  unfold cSumBits floatBits
  show ((FloatKind.f64.format.add _ _).bind _) = _
  rw [show FloatKind.f64.format.add (Fx.fb a) (Fx.fb c) = some (Fx.fb (a + c)) from Fx.add_fb a c ha hc hac, show FloatKind.f64.format.add (Fx.fb b) (Fx.fb d) = some (Fx.fb (b + d)) from Fx.add_fb b d hb hd hbd]
  rfl)
theorem uX (s : Sl) (M : Mp) (n : Int) (w : World) (h : RdM w s M.st) (hs : ∀ i, i < 8 → (M.st i).length ≤ 10000) :
  Calls Tryz.prog 54 #[yC s M.live M.garb, .int .i64 n] w fun e w' => (∃ s', e = .returned (yC s' (yh M n).live (yh M n).garb) ∧ OwnM w' w.heap.size s' (yh M n).st) ∧ Below w.heap.size w w' := by
 have HV := zh (fun s W h => vL s M W h (fun i hi => Nat.le_trans (hs i hi) (by decide)));have HBx := zh ((BoxM.new w s M.live M.garb 36).below (zR (w.alloc (.cells (yQ s M.live M.garb) 36)) Sl.nil 0 0 36));have HBy := zh (BoxM.new (w.alloc (.cells (yQ s M.live M.garb) 36)) Sl.nil 0 0 36);have HB0 := zh (zA (zR w s M.live M.garb 36) (zR (w.alloc (.cells (yQ s M.live M.garb) 36)) Sl.nil 0 0 36));rw [show (w.alloc (.cells (yQ s M.live M.garb) 36)).heap.size = w.heap.size + 1 by simp] at HBy;have HC := zh (fun W h => qJ s M.live M.garb M.st W h (fun i hi => Nat.le_trans (hs i hi) (by decide)));have Hr := zh h;have HVl := zh (fun hv : yX M = true => (⟨uf ((zM M).1 hv) hs, ((zM M).1 hv).g0, ((zM M).1 hv).g1⟩ : _ ∧ _ ∧ _));have HW := zh (show yh M n = if yX M = true ∧ 0 ≤ n ∧ n ≤ 1099511627776 - M.garb then ⟨M.st, M.live, M.garb + n⟩ else M from rfl);clear h hs;generalize yX M = vb at *
 generalize yh M n = WM at *;obtain ⟨f, L, G⟩ := M;dsimp only at *
 go_enter Tryz.func54, Tryz.ntmps54
 go_wp2_with fail;refine (HC.out _ (Hr.out.below HB0.out)).mono ?_; rintro e w1 ⟨⟨s1, rfl, hown1⟩, hb1⟩;have HX1 := zh (HBx.out.below hb1);have HY1 := zh (HBy.out.below hb1);have HB1 := zh (zA HB0.out hb1);have HO1 := zh (hown1.mono (show w.heap.size + 2 ≤ _ by simp));obtain ⟨c0, c1, c2, c3, c4, c5, c6, c7, c8, c9⟩ := HX1.out.q;have cF := HX1.out.f;clear hown1 hb1 HC HBx HBy HB0;go_upto_region 2 with fail;change Code.wp _ _ _ _ (z8 w1 w.heap.size s1 L G);obtain ⟨V, hV⟩ : ∃ V, z8 w1 w.heap.size s1 L G = V := ⟨_, rfl⟩
 have HXv := zh (show BoxM V w.heap.size s1 L G from hV ▸ HX1.out.all s1 L G);have HYv := zh (show BoxM V (w.heap.size + 1) Sl.nil 0 0 from hV ▸ HY1.out.putM_ne (by omega) s1 L G);have HBv := zh (show Below w.heap.size w V from hV ▸ zQ HB1.out (Nat.le_refl _) s1 L G);have HOv := zh (show OwnM V (w.heap.size + 2) s1 f from hV ▸ HO1.out.putM (by omega) s1 L G);rw [hV];clear hV c0 c1 c2 c3 c4 c5 c6 c7 c8 c9 cF HX1 HY1 HB1 HO1;obtain ⟨c0, c1, c2, c3, c4, c5, c6, c7, c8, c9⟩ := HXv.out.q;have cF := HXv.out.f;go_wp2_with fail;refine (HV.out s1 V HOv.out.rd).mono ?_; rintro e w2 ⟨rfl, hb2⟩;have HX2 := zh (HXv.out.below hb2);have HY2 := zh (HYv.out.below hb2);have HB2 := zh (zA HBv.out hb2);have HO2 := zh (HOv.out.keep hb2);clear hb2 c0 c1 c2 c3 c4 c5 c6 c7 c8 c9 cF HXv HYv HBv HOv HV;obtain ⟨c0, c1, c2, c3, c4, c5, c6, c7, c8, c9⟩ := HX2.out.q;have cF := HX2.out.f
 obtain ⟨d0, d1, d2, d3, d4, d5, d6, d7, d8, d9⟩ := HY2.out.q;have dF := HY2.out.f
 by_cases hok : vb = true ∧ 0 ≤ n ∧ n ≤ 1099511627776 - G
 ·
  rw [if_pos hok] at HW;obtain ⟨rfl, h1, h2⟩ := hok;obtain ⟨⟨hLs, hL0, hL1⟩, hG0, hG1⟩ := HVl.out rfl;have g1 : decide (n < 0) = false := by simp; omega
  have j1 : IntKind.i64.wrap (1099511627776 - G) = 1099511627776 - G := IntWalk.i64_in _ (by omega);have g2 : decide (1099511627776 - G < n) = false := by simp; omega
  have HCt := zh (fun u : BelowBy w2 => uQ s1 L G u.w');have HWi := zh (fun W => zAg s1 L G L (G + n) hLs (zn (by omega) (by omega)) W);have hadd := fun W => zAI (a := L) (b := G) (c := 0) (d := n) hLs (zn (by omega) (by omega)) (zn (by omega) (by omega)) (zn (by omega) (by omega)) (by rw [Int.add_zero]; exact hLs) (zn (by omega) (by omega)) 168 W
  have hz : Fx.fb 0 = 0 := rfl;rw [Int.add_zero, hz] at hadd;have hfn : floatOfInt .f64 n = Fx.fb n := rfl;obtain ⟨e0, e1, e2, e3, e4, e5, e6, e7, e8, e9⟩ := HX2.out.q;have eF := HX2.out.f;go_wp2_with fail;have f0 := zC e0;have f1 := zC e1;have f2 := zC e2;have f3 := zC e3;have f4 := zC e4;have f5 := zC e5;have f6 := zC e6;have f7 := zC e7;have f8 := zC e8;have f9 := zC e9;refine uy 7 (by kernel_rfl) (by kernel_rfl) ?_;simp only [List.take_succ_cons, List.take_zero, List.drop_succ_cons, List.drop_zero]
  repeat (go_big_quiet_step (exact zI (HCt.out _)))
  refine wpQuiet_nil ?_;intro _ hw';obtain ⟨u, hw'⟩ := hw';subst hw';have HYu := zh (HY2.out.below u.h);have HBu := zh (zA HB2.out u.h);have HOu := zh (HO2.out.keep u.h);generalize u.w' = w3 at *;clear c0 c1 c2 c3 c4 c5 c6 c7 c8 c9 cF d0 d1 d2 d3 d4 d5 d6 d7 d8 d9 dF e0 e1 e2 e3 e4 e5 e6 e7 e8 e9 eF f0 f1 f2 f3 f4 f5 f6 f7 f8 f9 hadd;go_wp2_with fail;refine (HWi.out _).mono ?_; rintro e w4 ⟨rfl, hb4⟩;have HY4 := zh (HYu.out.below hb4);have HB4 := zh (zA HBu.out hb4);have HO4 := zh (HOu.out.keep hb4);clear hb4;obtain ⟨d0, d1, d2, d3, d4, d5, d6, d7, d8, d9⟩ := HY4.out.q;have dF := HY4.out.f;go_wp2_with fail;change bodyPost _ _ _ _ _ (z8 w4 (w.heap.size + 1) s1 L (G + n));have hby := HY4.out.all s1 L (G + n);have HRq := zh ((HO4.out.putM (show w.heap.size + 1 < w.heap.size + 2 by omega) s1 L (G + n)).mono (show w.heap.size ≤ w.heap.size + 2 by omega))
  have HBz := zh (zQ HB4.out (Nat.le_succ _) s1 L (G + n));generalize z8 w4 (w.heap.size + 1) s1 L (G + n) = V2 at *;exact bodyPost_ret (v := yC s1 L (G + n)) (by simp [results, Tryz.results54, go_sem, hby.c0, hby.c1, hby.c2, hby.c3, hby.c4, hby.c5, hby.c6, hby.c7, hby.cl, hby.cg]) rfl ⟨⟨s1, by rw [HW.out], by rw [HW.out]; exact HRq.out⟩, HBz.out⟩
 rw [if_neg hok] at HW
 cases vb
 ·
  clear hok;go_wp2_with fail;change bodyPost _ _ _ _ _ (z8 w2 (w.heap.size + 1) s1 L G);have hby := HY2.out.all s1 L G;have HRq := zh ((HO2.out.putM (show w.heap.size + 1 < w.heap.size + 2 by omega) s1 L G).mono (show w.heap.size ≤ w.heap.size + 2 by omega));have HBz := zh (zQ HB2.out (Nat.le_succ _) s1 L G);generalize z8 w2 (w.heap.size + 1) s1 L G = V2 at *;exact bodyPost_ret (v := yC s1 L G) (by simp [results, Tryz.results54, go_sem, hby.c0, hby.c1, hby.c2, hby.c3, hby.c4, hby.c5, hby.c6, hby.c7, hby.cl, hby.cg]) rfl ⟨⟨s1, by rw [HW.out], by rw [HW.out]; exact HRq.out⟩, HBz.out⟩
 by_cases h1 : n < 0
 ·
  have g1 : decide (n < 0) = true := by simpa using h1
  clear hok;go_wp2_with fail;change bodyPost _ _ _ _ _ (z8 w2 (w.heap.size + 1) s1 L G);have hby := HY2.out.all s1 L G;have HRq := zh ((HO2.out.putM (show w.heap.size + 1 < w.heap.size + 2 by omega) s1 L G).mono (show w.heap.size ≤ w.heap.size + 2 by omega));have HBz := zh (zQ HB2.out (Nat.le_succ _) s1 L G);generalize z8 w2 (w.heap.size + 1) s1 L G = V2 at *;exact bodyPost_ret (v := yC s1 L G) (by simp [results, Tryz.results54, go_sem, hby.c0, hby.c1, hby.c2, hby.c3, hby.c4, hby.c5, hby.c6, hby.c7, hby.cl, hby.cg]) rfl ⟨⟨s1, by rw [HW.out], by rw [HW.out]; exact HRq.out⟩, HBz.out⟩
 have g1 : decide (n < 0) = false := by simpa using h1
 obtain ⟨_, hG0, hG1⟩ := HVl.out rfl;have j1 : IntKind.i64.wrap (1099511627776 - G) = 1099511627776 - G := IntWalk.i64_in _ (by omega);have g2 : decide (1099511627776 - G < n) = true := by
  have : ¬ n ≤ 1099511627776 - G := fun e => hok ⟨rfl, by omega, e⟩
  simp; omega
 clear hok;go_wp2_with fail;change bodyPost _ _ _ _ _ (z8 w2 (w.heap.size + 1) s1 L G);have hby := HY2.out.all s1 L G;have HRq := zh ((HO2.out.putM (show w.heap.size + 1 < w.heap.size + 2 by omega) s1 L G).mono (show w.heap.size ≤ w.heap.size + 2 by omega));have HBz := zh (zQ HB2.out (Nat.le_succ _) s1 L G);generalize z8 w2 (w.heap.size + 1) s1 L G = V2 at *;exact bodyPost_ret (v := yC s1 L G) (by simp [results, Tryz.results54, go_sem, hby.c0, hby.c1, hby.c2, hby.c3, hby.c4, hby.c5, hby.c6, hby.c7, hby.cl, hby.cg]) rfl ⟨⟨s1, by rw [HW.out], by rw [HW.out]; exact HRq.out⟩, HBz.out⟩
theorem zCW {w : World} {hb g : Nat} {ca cb : Array Value} (hne : hb ≠ g) (ha : w.heap[hb]? = some (.cells ca 49 (0, 0))) (hb' : w.heap[g]? = some (.cells cb 49 (0, 0))) (hn : cb.size ≠ 0) (off : Nat) :
  ∀ la c lb d, (callFunc 179 #[.slice (some ⟨hb, 0, none⟩) la c, .slice (some ⟨g, off, none⟩) lb d]).run Tryz.prog w = .ok (.value (.bool false)) w := fun la c lb d => by
 rw [run_callFunc_extern Tryz.func179 (by kernel_rfl) (by kernel_rfl) (by kernel_rfl) (e := Extern.SlicesOverlaps.overlaps #[33, 33] #[4]) (by kernel_rfl),
  Lib.run_overlaps_apart w 33 4 49 Tryz.underlying33 4 (wI yA).2 ⟨hb, 0, none⟩ ⟨g, off, none⟩ la c lb d hne 49 49 ca.size cb.size (by simp [World.shape?, ha]) (by simp [World.shape?, hb']) hn (by simp [World.frozen?, ha]) (by simp [World.frozen?, ha])]
 rfl
theorem qC (g n cap k : Nat) (hk : k + 1 ≤ n) (hc : k + 1 < cap) :
  ∀ W kl, (Instr.slice 33 (.slice (some ⟨g, 0, none⟩) n cap) (some (.int kl ((k : Int) + 1))) none none).run Tryz.prog W = .ok (.slice (some ⟨g, (k + 1) * 4, none⟩) (n - (k + 1)) (cap - (k + 1))) W := fun W kl => by
 have := tN (P := Tryz.prog) yA g n cap (k + 1) hk hc W kl;rw [Int.natCast_add] at this;exact this
theorem zAm {w : World} {B g n cap : Nat} {xs : List Value} (h : w.ownsRow B 49 4 (.slice (some ⟨g, 0, none⟩) n cap) n xs) (k : Nat) (hk : k ≤ n) (hc : k < cap) :
  Rd w 4 (.slice (some ⟨g, k * 4, none⟩) (n - k) (cap - k)) (n - k) (xs.drop (k * 4)) := by
 have hx := h.1;have := kR (zv h) k n hk (Nat.le_refl _);have hne : cap ≠ k := by omega
 unfold sliced at this;rw [if_neg hne] at this;simp only [Option.map_some, yJ, Nat.zero_add] at this;rw [List.take_of_length_le (by rw [List.length_drop, hx, Nat.sub_mul]; omega)] at this;exact this
theorem zC3 {w : World} {B g n cap : Nat} {xs : List Value} (h : w.ownsRow B 49 4 (.slice (some ⟨g, 0, none⟩) n cap) n xs) : ∃ cur, w.heap[g]? = some (.cells cur 49 (0, 0)) ∧ cur.size = cap * 4 ∧ n ≤ cap := by
 rcases h.2 with ⟨h', _⟩ | ⟨g', c2, cur, h', hb, hg, hnc, hcm, hcs, htake⟩
 ·
  cases h'
 injection h' with h' _ h'';injection h' with h';injection h' with h' _;subst h' h'';exact ⟨cur, hg, hcs, hnc⟩
theorem zKN (v : Value) (l : List It) (i : Nat) (x : It) (hb B : Nat) (w : World) (hown : OwnT w B v l) (hB : B ≤ w.heap.size) (hi : i ≤ l.length) (hs : l.length ≤ 1000000)
  (hh : w.heap[hb]? = some (.cells (itC x).toArray 49 (0, 0))) (hne : ∀ k, v.ownBlock = some k → k ≠ hb) :
  Calls Tryz.prog 142 #[v, .int .i64 (i : Int), .slice (some ⟨hb, 0, none⟩) 1 1] w fun e w' => ∃ v', e = .returned v' ∧ OwnT w' B v' (l.take i ++ x :: l.drop i) ∧ Below B w w' := by
 have hv1 : Rd w 4 (.slice (some ⟨hb, 0, none⟩) 1 1) 1 (itC x) := by
  refine ⟨rfl, some ⟨hb, 0, none⟩, 1, rfl, Nat.le_refl _, by unfold maxLen; omega, fun h => (by cases h), fun _ => ⟨hb, 0, rfl, fun j u hj => ?_⟩⟩;have : w.cell? ⟨hb, 0 + j, none⟩ = (itC x).toArray[0 + j]? := by simp [World.cell?, hh]
  rw [this, Nat.zero_add, List.getElem?_toArray]; exact hj
 obtain ⟨oa, oc, rfl, ho1, ho2, ho3⟩ := zJ hown;have hm := kC ho1 ho2;have Hown := zh (show w.ownsRow B 49 4 _ l.length (zL l) from hown);have Hv := zh hv1;have Hh := zh hh;have hl := yB l;have hfin : zL (l.take i ++ x :: l.drop i) = (zL l).take (i * 4) ++ itC x ++ (zL l).drop (i * 4) := by
  rw [zp, uA, xX, uE, List.append_assoc]
 have HF := zh hfin;have Hone := zh (zl l);have Hon1 := zh (show ∀ u ∈ itC x, u.oneCell' = true by rw [← yy]; exact zl [x]);have hl1 : (itC x).length = 4 := rfl;generalize hn : l.length = n at *;have HN := zh hn;generalize zL l = xs at *;generalize itC x = c at *;have HL := zh hl;have HL1 := zh hl1;clear hown hv1 hh hn hfin hl hl1 ho3
 by_cases hin : i = n
 ·
  subst hin;obtain ⟨x1, y1, g1, _, _⟩ := vK (P := Tryz.prog) yA (zv Hown.out) i (Nat.le_refl _);clear hne
  go_enter Tryz.func142, Tryz.ntmps142
  go_wp2_with (at_builtin; go_must (refine za rfl (.tmp 23) (.tmp 24) 33 rfl yA B rfl Hown.out rfl Hv.out Hon1.out (by unfold maxLen; omega) (by omega) hB ?_); intro v4 w4 hown4 hgr4 hv4; clear hv4);go_ret;refine ⟨_, rfl, yE hown4 ?_, zK (Below.refl _ _) Hown.out hB hgr4⟩;rw [HF.out, List.take_of_length_le (by rw [HL.out]; omega), List.drop_of_length_le (by rw [HL.out]; omega), List.append_nil]
 obtain ⟨g, rfl⟩ : ∃ g, oa = some ⟨g, 0, none⟩ := by
  rcases Hown.out.2 with ⟨e, h0⟩ | ⟨g, _, _, e, _⟩
  ·
   omega
  injection e with e; exact ⟨g, e⟩
 have hgh : g ≠ hb := hne g rfl;have hneq : ((i : Int) == (n : Int)) = false := beq_eq_false_iff_ne.2 (by omega);have g1 := tN (P := Tryz.prog) yA g n oc i hi (by omega);clear hne
 by_cases hr : oc < n + 1
 ·
  obtain ⟨w2, c2, ha, hown2, hb2, hc2⟩ := zGk Hown.out i (n + 1 - i) hi (by omega) (by omega) (by omega);have ha : ∀ ty, (Builtin.append_ #[33, 3] ty #[.slice (some ⟨g, 0, none⟩) i oc, .int .i64 ((n : Int) + 1 - (i : Int))]).run Tryz.prog w = .ok (.slice (some ⟨w.heap.size, 0, none⟩) (n + 1) c2) w2 := fun ty => by
   have := ha ty;rw [show ((n + 1 - i : Nat) : Int) = (n : Int) + 1 - (i : Int) by omega, show i + (n + 1 - i) = n + 1 by omega] at this;exact this
  rw [show i + (n + 1 - i) = n + 1 by omega] at hown2;obtain ⟨_, _, _, hnc2⟩ := zC3 hown2;have gto := yU (P := Tryz.prog) yA (a := some ⟨g, 0, none⟩) (n := n) (cap := oc) (fun x hx => ⟨g, 0, by injection hx with hx; exact hx.symm⟩) i (by omega);have g2 := tN (P := Tryz.prog) yA w.heap.size (n + 1) c2 i (by omega) (by omega);obtain ⟨w3, hcp1, hown3, hgr3⟩ := qg (P := Tryz.prog) (sT := 33) yA hown2 (Hv.out.below hb2) i (n + 1 - i) (c2 - i) 1 (by simp [Nat.min_def]; omega) (by decide) (by decide) (by omega) (fun u hu => Hon1.out u (List.mem_of_mem_take hu));have hb3 : Below w.heap.size w w3 := hb2.grown hgr3 hb2.size (by intro r hr; injection hr with hr; omega);have g3 := qC w.heap.size (n + 1) c2 i (by omega) (by omega)
  obtain ⟨w4, hcp2, hown4, hgr4⟩ := qg (P := Tryz.prog) (sT := 33) yA hown3.drew ((zAm Hown.out i hi (by omega)).below hb3.drew) (i + 1) (n - i) (c2 - (i + 1)) (n - i) (by simp) (by omega) (by decide) (by omega) (fun u hu => Hone.out u (List.mem_of_mem_drop (List.mem_of_mem_take hu)));have hb4 : Below w.heap.size w w4 := hb3.drew.grown hgr4 hb3.drew.size (by intro r hr; injection hr with hr; omega);have hgo : ((oc : Int) < (n : Int) + 1) := by omega
  have hw2 := zh (Hown.out.1);have hRes := zh hown4;have HB4 := zh hb4;clear hb2 hb3 hb4 hown2 hown3 hown4 hgr3 hgr4 hnc2
  go_enter Tryz.func142, Tryz.ntmps142
  go_wp2_with (at_builtin; go_must (refine Lib.wpList_append_run _ rfl (.tmp 34) (.tmp 39) 33 3 rfl _ _ rfl rfl _ _ (ha _) ?_));have j1 : IntKind.i64.wrap ((i : Int) + 1) = (i : Int) + 1 := IntWalk.i64_in _ (by omega);have j2 : (0 : Int) ≤ (i : Int) + 1 := by omega
  have j3 : (i : Int) + 1 ≤ (n : Int) + 1 := by omega
  have j4 : ((i : Int) + 1).toNat = i + 1 := by omega
  have j5 : (i : Int) ≤ (n : Int) := by omega
  go_region_held3 (fun _ => True) (trivial) (fail)
  go_wp2_with fail;go_ret;refine ⟨_, rfl, yE (hRes.out.mono hB) ?_, HB4.out.mono hB⟩;rw [HF.out];have hz : (zL (List.replicate (n + 1 - i) it0)).length = (n + 1 - i) * 4 := by rw [yB, List.length_replicate]
  have hc1 : c.take (1 * 4) = c := List.take_of_length_le (by rw [HL1.out]; omega);have hx1 : (xs.drop (i * 4)).take ((n - i) * 4) = xs.drop (i * 4) := List.take_of_length_le (by rw [List.length_drop, HL.out]; omega);rw [hc1, hx1];exact zHX hi HL.out hz HL1.out
 obtain ⟨ys, hy, hown1⟩ := zDP Hown.out 1 (by omega);have gto := yU (P := Tryz.prog) yA (a := some ⟨g, 0, none⟩) (n := n) (cap := oc) (fun x hx => ⟨g, 0, by injection hx with hx; exact hx.symm⟩) (n + 1) (by omega);simp only [Int.natCast_add] at gto;rw [show ((1 : Nat) : Int) = 1 from rfl] at gto;have g2 := tN (P := Tryz.prog) yA g (n + 1) oc i (by omega) (by omega);have g3 := qC g (n + 1) oc i (by omega) (by omega);obtain ⟨cur, hg, hcs, _⟩ := zC3 hown1;have hov := zCW (Ne.symm hgh) Hh.out hg (by omega) ((i + 1) * 4)
 obtain ⟨w3, hcp1, hown3, hgr3⟩ := qg (P := Tryz.prog) (sT := 33) yA hown1.drew (zAm hown1.drew i (by omega) (by omega)) (i + 1) (n - i) (oc - (i + 1)) (n - i) (by simp [Nat.min_def]; omega) (by omega) (by decide) (by omega) (fun u hu => Hone.out u (by
  rw [List.drop_append_of_le_length (by rw [HL.out]; omega), List.take_left' (by rw [List.length_drop, HL.out]; omega)] at hu
  exact List.mem_of_mem_drop hu))
 have hb3 : Below B w w3 := ((Below.refl B w).drew).grown hgr3 hB (by intro r hr; injection hr with hr; have := (hown1.lt g rfl).1; omega);have hv3 := Rd.grown (Hv.out.drew) hgr3 (fun y hy => by injection hy with hy; subst hy; intro e; injection e with e; exact hgh e.symm);obtain ⟨w4, hcp2, hown4, hgr4⟩ := qg (P := Tryz.prog) (sT := 33) yA hown3 hv3 i (n + 1 - i) (oc - i) 1 (by simp [Nat.min_def]; omega) (by decide) (by decide) (by omega) (fun u hu => Hon1.out u (List.mem_of_mem_take hu));have hb4 : Below B w w4 := hb3.grown hgr4 (Nat.le_trans hB hb3.size) (by intro r hr; injection hr with hr; have := (hown1.lt g rfl).1; omega);have hRes := zh hown4;have HB4 := zh hb4;have HY := zh hy;have hgo : ¬ ((oc : Int) < (n : Int) + 1) := by omega
 have j1 : IntKind.i64.wrap ((i : Int) + 1) = (i : Int) + 1 := IntWalk.i64_in _ (by omega);have j2 : (0 : Int) ≤ (i : Int) + 1 := by omega
 have j3 : (i : Int) + 1 ≤ (n : Int) + 1 := by omega
 have j4 : ((i : Int) + 1).toNat = i + 1 := by omega
 have j5 : (i : Int) ≤ (n : Int) := by omega
 clear hb3 hb4 hown1 hown3 hown4 hgr3 hgr4 hv3 hy hcs hg
 go_enter Tryz.func142, Tryz.ntmps142
 go_wp2_with (simp only [hov]);have j6 : (i : Int) ≤ (n : Int) + 1 := by omega
 go_region_held3 (fun _ => True) (trivial) (fail)
 go_wp2_with fail;go_ret;refine ⟨_, rfl, yE hRes.out ?_, HB4.out⟩;rw [HF.out];have hc1 : c.take (1 * 4) = c := List.take_of_length_le (by rw [HL1.out]; omega);rw [hc1];exact zGx hi HL.out (by rw [HY.out])
theorem zAC {P : Program} {w : World} {ops : Array Oper} {o : Oper} {a : Act} {K : Act → World → Prop} {Q : Exit → Act → World → Prop} {E : Prop} (hgd : o.guard = none) (s x : Operand) (t tn : TypeId)
  (ho : o.op = .call { callee := .builtin .append, args := #[s, x], argTypes := #[t, tn] }) (vs vx : Value) (hs : a.eval s = vs) (hx : a.eval x = vx)
  (v' : Value) (w' : World) (hr : (Builtin.append_ #[t, tn] o.type #[vs, vx]).run P w = .ok v' w') (h : K (a.put o.dst v') w') :
  if Region.wanted o (yielded ops a.tmps) = true then Oper.wp P o a w K Q else E := by
 have hw : Region.wanted o (yielded ops a.tmps) = true := by simp [Region.wanted, hgd]
 rw [if_pos hw];exact Lib.wp_append_run w s x t tn ho vs vx hs hx v' w' hr h
theorem zE0 {w : World} {B g n cap : Nat} {xs : List Value} (h : w.ownsRow B 49 4 (.slice (some ⟨g, 0, none⟩) n cap) n xs) (k : Nat) (hk : k + 1 ≤ n) :
  ∃ p c', (∀ W kl, (Instr.slice 33 (.slice (some ⟨g, 0, none⟩) n cap) (some (.int kl ((k : Int) + 1))) none none).run Tryz.prog W = .ok (.slice (some p) (n - (k + 1)) c') W) ∧
   Rd w 4 (.slice (some p) (n - (k + 1)) c') (n - (k + 1)) (xs.drop ((k + 1) * 4)) := by
 obtain ⟨_, _, _, hnc⟩ := zC3 h
 by_cases hq : k + 1 < cap
 ·
  exact ⟨_, _, qC g n cap k hk hq, zAm h (k + 1) hk hq⟩
 obtain rfl : cap = k + 1 := by omega
 obtain rfl : n = k + 1 := by omega
 refine ⟨⟨g, 0, none⟩, 0, fun W kl => ?_, ?_⟩
 ·
  obtain ⟨h1, h2⟩ := wI (P := Tryz.prog) yA;rw [run_slice_l W 33 (some ⟨g, 0, none⟩) (k + 1) (k + 1) h1 kl ((k : Int) + 1) (by omega) (by omega), h2];have : ((k : Int) + 1).toNat = k + 1 := by omega
  simp [Result.andThen, sliced, this]
 have hx := h.1;rw [List.drop_of_length_le (by omega), Nat.sub_self];exact ⟨rfl, some ⟨g, 0, none⟩, 0, rfl, Nat.le_refl _, Nat.zero_le _, fun h => (by cases h), fun h => absurd h (by simp)⟩
theorem zEr (g p cap : Nat) (hc : p + 1 ≤ cap) :
  ∀ W kl kh, (Instr.slice 33 (.slice (some ⟨g, 0, none⟩) p cap) (some (.int kl (p : Int))) (some (.int kh ((p : Int) + 1))) none).run Tryz.prog W = .ok (.slice (some ⟨g, p * 4, none⟩) 1 (cap - p)) W := fun W kl kh => by
 obtain ⟨h1, h2⟩ := wI (P := Tryz.prog) yA;rw [run_slice_lh W 33 (some ⟨g, 0, none⟩) p cap h1 kl kh (p : Int) ((p : Int) + 1) (by omega) (by omega) (by omega), h2];have h3 : ((p : Int) + 1).toNat = p + 1 := by omega
 have h4 : cap ≠ p := by omega
 simp [Result.andThen, sliced, h3, h4, yJ]
theorem zEA (a : Option Addr) (n cap i : Nat) (hi : i + 1 ≤ n) (hn : n ≤ cap) :
  ∃ u, ∀ W kl kh km, (Instr.slice 33 (.slice a n cap) (some (.int kl (i : Int))) (some (.int kh ((i : Int) + 1))) (some (.int km (n : Int)))).run Tryz.prog W = .ok u W := by
 obtain ⟨h1, h2⟩ := wI (P := Tryz.prog) yA;refine ⟨sliced a (i : Int).toNat ((i : Int) + 1).toNat (n : Int).toNat 4, fun W kl kh km => ?_⟩;rw [run_slice_lhm W 33 a n cap h1 kl kh km (i : Int) ((i : Int) + 1) (n : Int) (by omega) (by omega) (by omega) (by omega), h2]
 rfl
theorem zJY (v : Value) (l : List It) (i B : Nat) (w : World) (hown : OwnT w B v l) (hB : B ≤ w.heap.size) (hi : i < l.length) (hs : l.length ≤ 1000000) :
  Calls Tryz.prog 137 #[v, .int .i64 (i : Int), .int .i64 ((i : Int) + 1)] w fun e w' => ∃ v', e = .returned v' ∧ OwnT w' B v' (l.take i ++ l.drop (i + 1)) ∧ Below B w w' := by
 obtain ⟨oa, oc, rfl, ho1, ho2, ho3⟩ := zJ hown;have hfin : zL (l.take i ++ l.drop (i + 1)) = (zL l).take (i * 4) ++ (zL l).drop ((i + 1) * 4) := by
  rw [zp, xX, uE]
 have HF := zh hfin;have Hone := zh (zl l);have hl := yB l;obtain ⟨p, hp⟩ : ∃ p, l.length = p + 1 := ⟨l.length - 1, by omega⟩
 have hown' : w.ownsRow B 49 4 _ l.length (zL l) := hown;clear hown;have hown := hown';clear hown';have hlen2 : (l.take i ++ l.drop (i + 1)).length = p := by rw [List.length_append, List.length_take, List.length_drop]; omega
 rw [hp] at hown ho1 hl hs hi ⊢;generalize zL l = xs at *;obtain ⟨g, rfl⟩ : ∃ g, oa = some ⟨g, 0, none⟩ := by
  rcases hown.2 with ⟨e, h0⟩ | ⟨g, _, _, e, _⟩
  ·
   omega
  injection e with e; exact ⟨g, e⟩
 have gto := yU (P := Tryz.prog) yA (a := some ⟨g, 0, none⟩) (n := p + 1) (cap := oc) (fun x hx => ⟨g, 0, by injection hx with hx; exact hx.symm⟩) i (by omega);obtain ⟨q, qc, g1, hrd⟩ := zE0 hown i hi;obtain ⟨w3, hap, hown3, hgr3⟩ := zHj (vG hown i (by omega)).drew hrd.drew (fun u hu => Hone.out u (List.mem_of_mem_drop hu)) (by omega);have e1 : i + (p + 1 - (i + 1)) = p := by omega
 rw [e1] at hap hown3;have hgB := (hown.lt g rfl).1;have hb3 : Below B w w3 := ((Below.refl B w).drew).grown hgr3 hB (by intro r hr; injection hr with hr; omega);obtain ⟨ys, hy, hown4⟩ := zDP hown3 1 (by omega);obtain ⟨w5, hcl, hown5, hgr5⟩ := zHJ hown4 p (by omega);have e2 : p + 1 - p = 1 := by omega
 rw [e2] at hcl;have hb5 : Below B w w5 := hb3.grown hgr5 (Nat.le_trans hB hb3.size) (by intro r hr; injection hr with hr; omega);obtain ⟨u3, g3⟩ := zEA (some ⟨g, 0, none⟩) (p + 1) oc i hi ho1;simp only [Int.natCast_add] at g3;rw [show ((1 : Nat) : Int) = 1 from rfl] at g3;have g2 := zEr g p oc (by omega);have hl3 := hown3.1;have hown6 := vG hown5 p (by omega);rw [List.take_append_of_le_length (by rw [List.length_take, List.length_append, hl3]; omega), List.take_take, Nat.min_self, List.take_left' hl3] at hown6;have HR := zh hown6;have HB5 := zh hb5;have HL2 := zh hlen2;have hneq : ((i : Int) == (i : Int) + 1) = false := beq_eq_false_iff_ne.2 (by omega);have j1 : IntKind.i64.wrap ((i : Int) + 1) = (i : Int) + 1 := IntWalk.i64_in _ (by omega);have hm : oc ≤ 9223372036854775807 := by unfold maxLen at ho2; omega
 clear hown hown3 hown4 hown5 hown6 hgr3 hgr5 hb3 hb5 hrd hl hl3 hlen2 hfin ho3 hp e1 e2 hy
 go_enter Tryz.func137, Tryz.ntmps137
 go_wp2_with fail;have j2 : (0 : Int) ≤ (i : Int) + 1 := by omega
 have j3 : (i : Int) + 1 ≤ (p : Int) + 1 := by omega
 have j4 : ((i : Int) + 1).toNat = i + 1 := by omega
 have j5 : (i : Int) ≤ (p : Int) + 1 := by omega
 have j6 : (i : Int) ≤ (oc : Int) := by omega
 go_region_held3 (fun _ => True) (trivial) (refine zAC rfl (.tmp 22) (.tmp 25) 33 33 rfl _ _ (by simp [Act.eval]) (by simp [Act.eval]) _ _ (hap _) ?_)
 go_wp2_with fail;go_ret;exact ⟨_, rfl, yE HR.out HF.out.symm, HB5.out⟩
theorem zKW (v : Value) (l : List It) (x : It) (w : World) (h : RdT w v l) (hk : wC l) (hs : l.length ≤ 100000) :
  Calls Tryz.prog 101 #[v, itV x] w fun e w' => ∃ v', e = .returned v' ∧ OwnT w' w.heap.size v' (ins (srt l) x) ∧ Below w.heap.size w w' := by
 have HS := zh (fun w h => hk v w h);have hlen := yN l;have HA := zh (wU l);have HF := zh (fun v w h => qB v (srt l) x.key w h (by omega));have HIn := zh (fun v i hb B w h1 h2 h3 => zKN v (srt l) i x hb B w h1 h2 h3 (by omega));have HPl := zh (fun r (h : Place (srt l) x.key r) => zK5 h (wU l));have Hr := zh h;obtain ⟨a, cap, rfl, _, _⟩ := h.shape;generalize srt l = s at *;generalize ins s x = res at *;obtain ⟨W0, hW0⟩ : ∃ W0, W0 = w.alloc (.cells #[.int .u64 x.key, .int .u32 x.ck, .int .i64 x.off, .int .i64 x.size] 49) := ⟨_, rfl⟩
 have hb0 : Below w.heap.size w W0 := by rw [hW0]; exact (Below.refl _ _).alloc (Nat.le_refl _) _
 have HB0 := zh hb0;have d0 : W0.cell? ⟨w.heap.size, 0, none⟩ = some (.int .u64 x.key) := by rw [hW0]; simp
 have d1 : W0.cell? ⟨w.heap.size, 1, none⟩ = some (.int .u32 x.ck) := by rw [hW0]; simp
 have d2 : W0.cell? ⟨w.heap.size, 2, none⟩ = some (.int .i64 x.off) := by rw [hW0]; simp
 have d3 : W0.cell? ⟨w.heap.size, 3, none⟩ = some (.int .i64 x.size) := by rw [hW0]; simp
 have HW0 := zh hW0;have hs0 : w.heap.size ≤ W0.heap.size := hb0.size;clear h hk hW0 hb0
 go_enter Tryz.func101, Tryz.ntmps101
 go_wp2_with fail;rw [← HW0.out];refine (HS.out _ (Hr.out.below HB0.out)).mono ?_; rintro e w1 ⟨v1, rfl, hown1, hb1⟩;have HO := zh hown1;have HB := zh hb1;have e0 := Below.keeps hb1 _ _ d0;have e1 := Below.keeps hb1 _ _ d1;have e2 := Below.keeps hb1 _ _ d2;have e3 := Below.keeps hb1 _ _ d3;clear hown1 hb1 d0 d1 d2 d3;go_wp2_with fail;refine (HF.out _ _ HO.out.rd).mono ?_; rintro e w2 ⟨⟨r, hp, rfl⟩, hb2⟩;have HB2 := zh (HB.out.trans (hb2.mono HB.out.size));have HO2 := zh (zH HO.out hb2);have HP := zh hp;have d0 := Below.keeps hb2 _ _ e0;have d1 := Below.keeps hb2 _ _ e1;have d2 := Below.keeps hb2 _ _ e2;have d3 := Below.keeps hb2 _ _ e3;clear hb2 hp e0 e1 e2 e3;have HPr := zh (HPl.out r HP.out);obtain ⟨oa, oc, rfl, ho1, ho2, ho3⟩ := zJ HO2.out;have hs2 : W0.heap.size ≤ w2.heap.size := HB2.out.size
 by_cases hy : r < s.length ∧ (iat s r).key = x.key
 ·
  have HR := zh (HPr.out.trans (if_pos hy));rw [decide_eq_true hy];have hrl := hy.1;obtain ⟨g, rfl⟩ : ∃ g, oa = some ⟨g, 0, none⟩ := by
   rcases HO2.out.2 with ⟨e, h0⟩ | ⟨g, _, _, e, _⟩
   ·
    omega
   injection e with e; exact ⟨g, e⟩
  have hgB := (HO2.out.lt g rfl).1;obtain ⟨_, _, e, c0, c1, c2, c3⟩ := (yS (zv HO2.out)).at hrl;injection e with e; injection e with e1 e2; subst e1 e2;simp only [Nat.zero_add] at c0 c1 c2 c3;have f0 := HO2.out.frozenAt (r * 4);have f1 := HO2.out.frozenAt (r * 4 + 1);have f2 := HO2.out.frozenAt (r * 4 + 2);have f3 := HO2.out.frozenAt (r * 4 + 3);have HSt := zh (zBM HO2.out r hrl x);clear hy;generalize iat s r = y at *;generalize hn : s.length = n at *;go_wp2_with fail;go_ret;refine ⟨_, rfl, ?_, HB0.out.trans (((((HB2.out.setCell hgB _).setCell hgB _).setCell hgB _).setCell hgB _).mono hs0)⟩;rw [HR.out];exact (yE HSt.out rfl).mono hs0
 have HR := zh (HPr.out.trans (if_neg hy));rw [decide_eq_false hy];clear hy;have hne : ∀ k, (Value.slice oa s.length oc).ownBlock = some k → k ≠ w2.heap.size := fun k hk => by have := (HO2.out.lt k hk).2; omega
 have HC := zh (HIn.out (.slice oa s.length oc) r w2.heap.size W0.heap.size (w2.alloc (.cells (itC x).toArray 49)) (HO2.out.alloc _) (by simp; omega) HP.out.1 (heap_alloc_new w2 _) hne);have HBA := zh (HB2.out.alloc hs2 (.cells (itC x).toArray 49));clear hne;go_wp2_with fail;refine HC.out.mono ?_; rintro e w3 ⟨v3, rfl, hown3, hb3⟩;have HO3 := zh hown3;have HB3 := zh (HBA.out.trans hb3);clear hown3 hb3;go_wp2_with fail;go_ret;refine ⟨_, rfl, ?_, HB0.out.trans (HB3.out.mono hs0)⟩;rw [HR.out];exact HO3.out.mono hs0
theorem zID (v : Value) (l : List It) (key : Int) (w : World) (h : RdT w v l) (hk : wC l) (hs : l.length ≤ 100000) :
  Calls Tryz.prog 98 #[v, .int .u64 key] w fun e w' => ∃ v', e = .returned v' ∧ OwnT w' w.heap.size v' (drp (srt l) key) ∧ Below w.heap.size w w' := by
 have HS := zh (hk v w h);have hlen := yN l;have HF := zh (fun v w h => qB v (srt l) key w h (by omega));have HDe := zh (fun v i B w h1 h2 h3 => zJY v (srt l) i B w h1 h2 h3 (by omega));have HPl := zh (fun r (h : Place (srt l) key r) => zGQ h (wU l));obtain ⟨a, cap, rfl, _, _⟩ := h.shape;generalize srt l = s at *;generalize drp s key = res at *;clear h hk
 go_enter Tryz.func98, Tryz.ntmps98
 go_wp2_with fail;refine HS.out.mono ?_; rintro e w1 ⟨v1, rfl, hown1, hb1⟩;have HO := zh hown1;have HB := zh hb1;clear hown1 hb1;go_wp2_with fail;refine (HF.out _ _ HO.out.rd).mono ?_; rintro e w2 ⟨⟨r, hp, rfl⟩, hb2⟩;have HB2 := zh (zA HB.out hb2);have HO2 := zh (zH HO.out hb2);have HP := zh hp;clear hb2 hp;have HPr := zh (HPl.out r HP.out);have hs2 : w.heap.size ≤ w2.heap.size := HB2.out.size
 by_cases hy : r < s.length ∧ (iat s r).key = key
 ·
  have HR := zh (HPr.out.trans (if_pos hy));rw [decide_eq_true hy];have hrl := hy.1;have HC := zh (HDe.out v1 r w.heap.size w2 HO2.out hs2 hrl);clear hy;go_wp2_with fail;refine HC.out.mono ?_; rintro e w3 ⟨v3, rfl, hown3, hb3⟩;have HO3 := zh hown3;have HB3 := zh (HB2.out.trans hb3);clear hown3 hb3;go_wp2_with fail;go_ret;refine ⟨_, rfl, ?_, HB3.out⟩;rw [HR.out];exact HO3.out
 have HR := zh (HPr.out.trans (if_neg hy));rw [decide_eq_false hy];clear hy;go_wp2_with fail;go_ret;refine ⟨_, rfl, ?_, HB2.out⟩;rw [HR.out];exact HO2.out
def xA (y : It) : Nat := szN y.size.toNat
def yF (M : Mp) (key : Int) : Mp :=
 match zW M key with
 | none => M
 | some y => if M.garb + (xA y : Int) ≤ 1099511627776 then ⟨fun i => if i = zb key then drp (M.st i) key else M.st i, M.live - (xA y : Int), M.garb + (xA y : Int)⟩ else M
theorem tC (y : It) (hy : 0 ≤ y.size) (w : World) : Calls Tryz.prog 97 #[itV y] w fun e w' => e = .returned (.int .i64 (xA y : Int)) ∧ Below w.heap.size w w' :=
 (zAd y w).mono fun e w' ⟨⟨n, he, _, h⟩, hb⟩ => ⟨by rw [he, h hy]; rfl, hb⟩
theorem zIP {a b : Int} (ha : Fx.Small a) (hb : Fx.Small b) : (FloatKind.f64.format.order (Fx.fb a) (Fx.fb b) == some Ordering.gt) = decide (b < a) := by
 have h : FloatKind.f64.format.order (Fx.fb a) (Fx.fb b) = some (compare a b) := Fx.order_fb a b ha hb;rw [h]
 show (some (compareOfLessAndEq a b) == some Ordering.gt) = _
 unfold compareOfLessAndEq
 by_cases h1 : a < b
 ·
  rw [if_pos h1, decide_eq_false (by omega)]; rfl
 rw [if_neg h1]
 by_cases h2 : a = b
 ·
  rw [if_pos h2, decide_eq_false (by omega)]; rfl
 rw [if_neg h2, decide_eq_true (by omega)]; rfl
theorem xN {M : Mp} {key : Int} {y : It} (h : zW M key = some y) : yX M = true ∧ y ∈ M.st (zb key) ∧ y.key = key ∧ 0 ≤ y.size := by
 unfold zW at h
 split at h
 ·
  rename_i hv;obtain ⟨h1, h2⟩ := wE h;exact ⟨hv, h1, h2, qh (((zM M).1 hv).ok _ (wD key)) y h1⟩
 cases h
theorem zAK (y : It) : xA y ≤ 4127 := xg _
theorem kj (s : Sl) (M : Mp) (key : Int) (w : World) (h : RdM w s M.st) (hs : ∀ i, i < 8 → (M.st i).length ≤ 10000) :
  Calls Tryz.prog 55 #[yC s M.live M.garb, .int .u64 key] w fun e w' => (∃ s', e = .returned (yC s' (yF M key).live (yF M key).garb) ∧ OwnM w' w.heap.size s' (yF M key).st) ∧ Below w.heap.size w w' := by
 have HG := zh (fun s W h => zEO s M key W h hs);have HBx := zh ((BoxM.new w s M.live M.garb 36).below (zR (w.alloc (.cells (yQ s M.live M.garb) 36)) Sl.nil 0 0 36));have HBy := zh (BoxM.new (w.alloc (.cells (yQ s M.live M.garb) 36)) Sl.nil 0 0 36);have HB0 := zh (zA (zR w s M.live M.garb 36) (zR (w.alloc (.cells (yQ s M.live M.garb) 36)) Sl.nil 0 0 36));rw [show (w.alloc (.cells (yQ s M.live M.garb) 36)).heap.size = w.heap.size + 1 by simp] at HBy;have HC := zh (fun W h => qJ s M.live M.garb M.st W h (fun i hi => Nat.le_trans (hs i hi) (by decide)));have Hr := zh h;have hk8 := wD key;have HS := zh (fun W => uV key W);have HSo := zh (fun y (hy : zW M key = some y) => (⟨uf ((zM M).1 (xN hy).1) hs, ((zM M).1 (xN hy).1).g0, ((zM M).1 (xN hy).1).g1, (xN hy).2.2.2, yH (vV (((zM M).1 (xN hy).1).ok _ hk8))⟩ : _ ∧ _ ∧ _ ∧ _ ∧ _))
 have HDr := zh (fun v W h => zID v (M.st (zb key)) key W h (xt _ (Nat.le_trans (hs _ hk8) (by decide))) (Nat.le_trans (hs _ hk8) (by decide)));have HW0 := zh (show zW M key = none → yF M key = M from fun h => by unfold yF; rw [h]);have HW1 := zh (show ∀ y, zW M key = some y → M.garb + (xA y : Int) ≤ 1099511627776 → yF M key = ⟨fun i => if i = zb key then drp (M.st i) key else M.st i, M.live - (xA y : Int), M.garb + (xA y : Int)⟩ from fun y h h2 => by unfold yF; rw [h]; exact if_pos h2);have HW2 := zh (show ∀ y, zW M key = some y → ¬ M.garb + (xA y : Int) ≤ 1099511627776 → yF M key = M from fun y h h2 => by unfold yF; rw [h]; exact if_neg h2);clear h hs;generalize zW M key = o at *;generalize yF M key = WM at *;generalize zb key = k at *;obtain ⟨f, L, G⟩ := M;dsimp only at *
 go_enter Tryz.func55, Tryz.ntmps55
 go_wp2_with fail;refine (HC.out _ (Hr.out.below HB0.out)).mono ?_; rintro e w1 ⟨⟨s1, rfl, hown1⟩, hb1⟩;have HX1 := zh (HBx.out.below hb1);have HY1 := zh (HBy.out.below hb1);have HB1 := zh (zA HB0.out hb1);have HO1 := zh (hown1.mono (show w.heap.size + 2 ≤ _ by simp));obtain ⟨c0, c1, c2, c3, c4, c5, c6, c7, c8, c9⟩ := HX1.out.q;have cF := HX1.out.f;clear hown1 hb1 HC HBx HBy HB0;go_upto_region 2 with fail;change Code.wp _ _ _ _ (z8 w1 w.heap.size s1 L G);obtain ⟨V, hV⟩ : ∃ V, z8 w1 w.heap.size s1 L G = V := ⟨_, rfl⟩
 have HXv := zh (show BoxM V w.heap.size s1 L G from hV ▸ HX1.out.all s1 L G);have HYv := zh (show BoxM V (w.heap.size + 1) Sl.nil 0 0 from hV ▸ HY1.out.putM_ne (by omega) s1 L G);have HBv := zh (show Below w.heap.size w V from hV ▸ zQ HB1.out (Nat.le_refl _) s1 L G);have HOv := zh (show OwnM V (w.heap.size + 2) s1 f from hV ▸ HO1.out.putM (by omega) s1 L G);rw [hV];clear hV c0 c1 c2 c3 c4 c5 c6 c7 c8 c9 cF HX1 HY1 HB1 HO1;obtain ⟨c0, c1, c2, c3, c4, c5, c6, c7, c8, c9⟩ := HXv.out.q;have cF := HXv.out.f;go_wp2_with fail;refine (HS.out _).mono ?_; rintro e w2 ⟨rfl, rfl⟩;go_wp2_with fail;refine (HG.out s1 V HOv.out.rd).mono ?_; rintro e w2 ⟨rfl, hb2⟩;have HX2 := zh ((HXv.out.below hb2).below (zu w2 (o.getD it0)));have HY2 := zh ((HYv.out.below hb2).below (zu w2 (o.getD it0)));have HB2 := zh (zA (zA HBv.out hb2) (zu w2 (o.getD it0)))
 have HO2 := zh ((HOv.out.keep hb2).keep (zu w2 (o.getD it0)));have HI2 := zh (BoxI.new w2 (o.getD it0));clear hb2 c0 c1 c2 c3 c4 c5 c6 c7 c8 c9 cF HXv HYv HBv HOv HG HS
 cases o with
 | none =>
  have HW := zh (HW0.out rfl);go_upto_region 5 with fail;obtain ⟨V3, hV3⟩ : ∃ V3, w2.alloc (yq it0) = V3 := ⟨_, rfl⟩
  rw [show w2.alloc (yq ((none : Option It).getD it0)) = V3 from hV3] at HX2 HY2 HB2 HO2;rw [hV3];clear hV3 HI2;obtain ⟨c0, c1, c2, c3, c4, c5, c6, c7, c8, c9⟩ := HX2.out.q;have cF := HX2.out.f;obtain ⟨d0, d1, d2, d3, d4, d5, d6, d7, d8, d9⟩ := HY2.out.q;have dF := HY2.out.f;go_wp2_with fail;change bodyPost _ _ _ _ _ (z8 V3 (w.heap.size + 1) s1 L G);have hby := HY2.out.all s1 L G;have HRq := zh ((HO2.out.putM (show w.heap.size + 1 < w.heap.size + 2 by omega) s1 L G).mono (show w.heap.size ≤ w.heap.size + 2 by omega));have HBz := zh (zQ HB2.out (show w.heap.size ≤ w.heap.size + 1 by omega) s1 L G);generalize z8 V3 (w.heap.size + 1) s1 L G = V9 at *;exact bodyPost_ret (v := yC s1 L G) (by simp [results, Tryz.results55, go_sem, hby.c0, hby.c1, hby.c2, hby.c3, hby.c4, hby.c5, hby.c6, hby.c7, hby.cl, hby.cg]) rfl ⟨⟨_, by rw [HW.out], by rw [HW.out]; exact HRq.out⟩, HBz.out⟩
 | some y =>
  obtain ⟨⟨hLs, hL0, hL1⟩, hG0, hG1, hy0, hsk⟩ := HSo.out y rfl;have HY0 := zh hy0;have HSk := zh hsk;have HW1y := zh (HW1.out y rfl);have HW2y := zh (HW2.out y rfl);clear HSo HW0 HW1 HW2 hy0 hsk;go_upto_region 6 with fail;obtain ⟨V3, hV3⟩ : ∃ V3, w2.alloc (yq y) = V3 := ⟨_, rfl⟩
  rw [show w2.alloc (yq ((some y).getD it0)) = V3 from hV3] at HX2 HY2 HB2 HO2 HI2;rw [show (some y).getD it0 = y from rfl] at HI2;rw [hV3];clear hV3;have hlen := zAK y;have HCt := zh (fun u : BelowBy V3 => uQ s1 L G u.w');have HLn := zh (fun u : BelowBy V3 => tC y HY0.out u.w');have HTu := zh (fun u : BelowBy V3 => zAX (xA y) (by omega) u.w');generalize xA y = n at *;have hadd := fun W => zAI (a := L) (b := G) (c := -(n : Int)) (d := (n : Int)) hLs (zn (by omega) (by omega)) (zn (by omega) (by omega)) (zn (by omega) (by omega)) (zn (by omega) (by omega)) (zn (by omega) (by omega)) 168 W
  have hgt := zIP (a := G + (n : Int)) (b := 1099511627776) (zn (by omega) (by omega)) (zn (by omega) (by omega));rw [show Fx.fb 1099511627776 = 4787326403894837248 from rfl] at hgt;have HWi := zh (fun s W => zAg s L G (L + -(n : Int)) (G + (n : Int)) (zn (by omega) (by omega)) (zn (by omega) (by omega)) W);have e : L + -(n : Int) = L - (n : Int) := by omega
  rw [e] at hadd HWi;clear e;obtain ⟨c0, c1, c2, c3, c4, c5, c6, c7, c8, c9⟩ := HX2.out.q;have cF := HX2.out.f;obtain ⟨i0, i1, i2, i3⟩ := HI2.out.t.q;have iF := HI2.out.f;have f0 := zC c0;have f1 := zC c1;have f2 := zC c2;have f3 := zC c3;have f4 := zC c4;have f5 := zC c5;have f6 := zC c6;have f7 := zC c7;have f8 := zC c8;have f9 := zC c9;have k0 := zC i0;have k1 := zC i1;have k2 := zC i2;have k3 := zC i3;clear c0 c1 c2 c3 c4 c5 c6 c7 c8 c9 cF i0 i1 i2 i3 iF;refine zB (by kernel_rfl) (by kernel_rfl) ?_
  repeat (go_big_quiet_step ((first | exact zI (HCt.out _) | exact zI (HLn.out _) | exact zI (HTu.out _))))
  refine wpQuiet_nil ?_;intro _ hw';obtain ⟨u, hw'⟩ := hw';subst hw';have HX3 := zh (HX2.out.below u.h);have HY3 := zh (HY2.out.below u.h);have HB3 := zh (zA HB2.out u.h);have HO3 := zh (HO2.out.keep u.h);generalize u.w' = w3 at *;clear f0 f1 f2 f3 f4 f5 f6 f7 f8 f9 k0 k1 k2 k3 HCt HLn HTu hadd HX2 HY2 HB2 HO2 HI2
  by_cases hgo : G + (n : Int) ≤ 1099511627776
  ·
   have HW := zh (HW1y.out hgo);rw [decide_eq_false (show ¬ (1099511627776 < G + (n : Int)) by omega)] at hgt;have hvk : s1.v k = .slice (s1.a k) (s1.n k) (s1.c k) := rfl;have ck := HX3.out.c k hk8;have HDk := zh (HDr.out _ w3 (HO3.out k hk8).rd);rw [HSk.out] at HDk;rw [hvk] at ck HDk;clear hvk;go_wp2_with fail;refine HDk.out.mono ?_; rintro e w4 ⟨v4, rfl, hown4, hb4⟩;have HX4 := zh (HX3.out.below hb4);have HY4 := zh (HY3.out.below hb4);have HB4 := zh (zA HB3.out hb4);have HO4 := zh (HO3.out.keep hb4);have HN4 := zh (hown4.mono (show w.heap.size + 2 ≤ w3.heap.size from HY3.out.lt));obtain ⟨va, vc, hv4, _⟩ := zJ hown4;subst hv4;clear hown4 hb4 HDk ck HX3 HY3 HB3 HO3;have ck := HX4.out.c k hk8;have cf := HX4.out.f k;have hvk : s1.v k = .slice (s1.a k) (s1.n k) (s1.c k) := rfl;rw [hvk] at ck;generalize (drp (f k) key).length = dn at *;go_upto_region 10 with fail
   obtain ⟨V5, hV5⟩ : ∃ V5, w4.setCell ⟨w.heap.size, k, none⟩ (.slice va dn vc) = V5 := ⟨_, rfl⟩
   have HX5 := zh (show BoxM V5 w.heap.size (s1.set k va dn vc) L G from hV5 ▸ HX4.out.setS hk8 va dn vc);have HY5 := zh (show BoxM V5 (w.heap.size + 1) Sl.nil 0 0 from hV5 ▸ HY4.out.set_ne (p := ⟨w.heap.size, k, none⟩) (show w.heap.size ≠ w.heap.size + 1 by omega) _);have HB5 := zh (show Below w.heap.size w V5 from hV5 ▸ HB4.out.setCell (p := ⟨w.heap.size, k, none⟩) (Nat.le_refl _) _);have HO5 := zh (show OwnM V5 (w.heap.size + 2) (s1.set k va dn vc) (fun i => if i = k then drp (f k) key else f i) from hV5 ▸ OwnM.set (fun i hi => zy (HO4.out i hi) (p := ⟨w.heap.size, k, none⟩) (show w.heap.size < w.heap.size + 2 by omega) _) (show OwnT _ _ _ (drp (f k) key) from yE (zy HN4.out (p := ⟨w.heap.size, k, none⟩) (show w.heap.size < w.heap.size + 2 by omega) _) rfl));rw [hV5];clear hV5 ck cf hvk HX4 HY4 HB4 HO4 HN4
   have hfe : (fun i => if i = k then drp (f k) key else f i) = (fun i => if i = k then drp (f i) key else f i) := funext fun i => by
    by_cases e : i = k
    ·
     rw [if_pos e, if_pos e, e]
    rw [if_neg e, if_neg e]
   rw [hfe] at HO5;clear hfe;generalize s1.set k va dn vc = s2 at *;obtain ⟨c0, c1, c2, c3, c4, c5, c6, c7, c8, c9⟩ := HX5.out.q;have cF := HX5.out.f;go_wp2_with fail;refine (HWi.out s2 V5).mono ?_; rintro e w6 ⟨rfl, hb6⟩;have HX6 := zh (HX5.out.below hb6);have HY6 := zh (HY5.out.below hb6);have HB6 := zh (zA HB5.out hb6);have HO6 := zh (HO5.out.keep hb6);clear hb6 c0 c1 c2 c3 c4 c5 c6 c7 c8 c9 cF;generalize L - (n : Int) = L2 at *;generalize G + (n : Int) = G2 at *;obtain ⟨c0, c1, c2, c3, c4, c5, c6, c7, c8, c9⟩ := HX6.out.q;have cF := HX6.out.f;obtain ⟨d0, d1, d2, d3, d4, d5, d6, d7, d8, d9⟩ := HY6.out.q;have dF := HY6.out.f;go_wp2_with fail;change bodyPost _ _ _ _ _ (z8 w6 (w.heap.size + 1) s2 L2 G2);have hby := HY6.out.all s2 L2 G2;have HRq := zh ((HO6.out.putM (show w.heap.size + 1 < w.heap.size + 2 by omega) s2 L2 G2).mono (show w.heap.size ≤ w.heap.size + 2 by omega))
   have HBz := zh (zQ HB6.out (show w.heap.size ≤ w.heap.size + 1 by omega) s2 L2 G2);generalize z8 w6 (w.heap.size + 1) s2 L2 G2 = V9 at *;exact bodyPost_ret (v := yC s2 L2 G2) (by simp [results, Tryz.results55, go_sem, hby.c0, hby.c1, hby.c2, hby.c3, hby.c4, hby.c5, hby.c6, hby.c7, hby.cl, hby.cg]) rfl ⟨⟨_, by rw [HW.out], by rw [HW.out]; exact HRq.out⟩, HBz.out⟩
  have HW := zh (HW2y.out (by omega));rw [decide_eq_true (show 1099511627776 < G + (n : Int) by omega)] at hgt;obtain ⟨c0, c1, c2, c3, c4, c5, c6, c7, c8, c9⟩ := HX3.out.q;have cF := HX3.out.f;obtain ⟨d0, d1, d2, d3, d4, d5, d6, d7, d8, d9⟩ := HY3.out.q;have dF := HY3.out.f;go_wp2_with fail;change bodyPost _ _ _ _ _ (z8 w3 (w.heap.size + 1) s1 L G);have hby := HY3.out.all s1 L G;have HRq := zh ((HO3.out.putM (show w.heap.size + 1 < w.heap.size + 2 by omega) s1 L G).mono (show w.heap.size ≤ w.heap.size + 2 by omega));have HBz := zh (zQ HB3.out (show w.heap.size ≤ w.heap.size + 1 by omega) s1 L G);generalize z8 w3 (w.heap.size + 1) s1 L G = V9 at *;exact bodyPost_ret (v := yC s1 L G) (by simp [results, Tryz.results55, go_sem, hby.c0, hby.c1, hby.c2, hby.c3, hby.c4, hby.c5, hby.c6, hby.c7, hby.cl, hby.cg]) rfl ⟨⟨_, by rw [HW.out], by rw [HW.out]; exact HRq.out⟩, HBz.out⟩
end Go.Proofs.YtcgfilmmokmdjaaGreat
