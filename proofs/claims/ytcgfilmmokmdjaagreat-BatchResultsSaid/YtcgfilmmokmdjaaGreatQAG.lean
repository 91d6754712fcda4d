/- A part of the walk. -/
import Derived.StillTailTactics
import Derived.Deep.Quiet
import Derived.BigQuiet
import Derived.Test.YtcgfilmmokmdjaaGreatBase
import Derived.Test.YtcgfilmmokmdjaaGreatQAF
import Derived.Test.YtcgfilmmokmdjaaGreatQAE
import Derived.Laws.Externs
import Derived.Test.YtcgfilmmokmdjaaGreatQAB
set_option maxRecDepth 100000
set_option maxHeartbeats 32000000
namespace Go.Proofs.YtcgfilmmokmdjaaGreat
open Go
section
variable {P : Program} {ops : Array Oper} {md : Region.Mode} {C : World → Prop}
def hd (P : Program) (md : Region.Mode) (ops : Array Oper) (C : World → Prop) (n : Nat) (L : Array Bool → Act → Prop) : Nat → Array Bool → Act → Prop
 | 0, s, a => L s a
 | f + 1, s, a => Region.ready md ops s ≠ [] ∧ ∀ i ∈ Region.ready md ops s, i < n ∧ qOp P ops C i (hd P md ops C n L f (s.setIfInBounds i true)) a
theorem Wj {n g : Nat} {L : Array Bool → Act → Prop} {Q : Exit → Act → World → Prop} (hL : ∀ s a w, C w → L s a → wpAny P md ops Q g s a w) :
  ∀ (f : Nat) (s : Array Bool) (a : Act) (w : World), C w → hd P md ops C n L f s a → wpAny P md ops Q (f + g) s a w
 | 0, s, a, w, hw, h => by rw [aJ]; exact hL _ _ _ hw h
 | f + 1, s, a, w, hw, h => by
  rw [show f + 1 + g = (f + g) + 1 by omega];exact ⟨fun e => absurd e h.1, fun i hi => wpOp_of_qOp hw (fun a' w' dY h' => Wj hL f _ a' w' dY h') (h.2 i hi).2⟩
theorem zJn {n i : Nat} {o : Oper} {v : Value} {L : Array Bool → Act → Prop} (hi : ops[i]? = some o) (hsel : ∀ (j : Nat) (o : Oper) cs b, ops[j]? = some o → o.op ≠ .select cs b)
  (hs : Region.sinkB md ops n = true) (hc : Region.chainB md ops n = true) (hn : n < ops.size) (hin : i < n) (hL : ∀ s a, L s a → ∀ j ∈ Region.ready md ops s, n ≤ j)
  (f : Nat) : ∀ (s : Array Bool) (a : Act), HeadInv md ops n s →
   (∀ j oj, ops[j]? = some oj → j ≠ i → s.getD j true = false → (∀ e ∈ oj.after, Region.binds md e = true → e.on ≠ i) → o.apart ops oj = true) →
   i ∈ Region.ready md ops s → YieldsIn P ops C o v a → hd P md ops C n L f (s.setIfInBounds i true) (a.put o.dst v) → hd P md ops C n L (f + 1) s a := by
 induction f with
 | zero =>
  intro s a inv _ hr hy H;refine ⟨(fun e => by rw [e] at hr; cases hr), fun j hj => ?_⟩;have hjn : j < n := Nat.lt_of_not_le fun h => tail_waits hs hc hn inv _ i rfl hin (mem_ready.1 hr).1 j h hj
  refine ⟨hjn, ?_⟩
  by_cases e : j = i
  ·
   subst e; exact hy.qOp hi H
  have := hL _ _ H j (ready_mono hj e); omega
 | succ f ih =>
  intro s a inv hfree hr hy H;refine ⟨(fun e => by rw [e] at hr; cases hr), fun j hj => ?_⟩;have hun := (mem_ready.1 hr).1;have hjn : j < n := Nat.lt_of_not_le fun h => tail_waits hs hc hn inv _ i rfl hin hun j h hj
  refine ⟨hjn, ?_⟩
  by_cases e : j = i
  ·
   subst e; exact hy.qOp hi H
  obtain ⟨KZ, oj, JF, hall⟩ := mem_ready.1 hj;have hno : ∀ e ∈ oj.after, Region.binds md e = true → e.on ≠ i := fun x hx hb heq => by
   have h1 := hall x hx hb;rw [heq, getD_both hun] at h1
   cases h1
  have h2 := qOp_put JF (hfree j oj JF e KZ hno) (fun cs b => hsel i o cs b hi) (fun cs b => hsel j oj cs b JF) hy (H.2 j (ready_mono hj e)).2;refine qOp_mono (fun a' h3 => ih (s.setIfInBounds j true) a' (inv.set hj hjn) (fun k ok hk hki hk' QB => hfree k ok hk hki ?_ QB) (ready_mono hr (aO e)) h3.1 ?_) h2
  ·
   by_cases hjk : j = k
   ·
    subst hjk; exact KZ
   rw [bC true hjk] at hk'; exact hk'
  rw [Array.setIfInBounds_comm _ _ e]; exact h3.2
theorem Wk {n g : Nat} {R : Act → Prop} (hsel : Region.noSelect ops = true) (hs : Region.sinkB md ops n = true) (hc : Region.chainB md ops n = true) (hn : n < ops.size) :
  ∀ (l : List Oper) (k : Nat) (s : Array Bool) (a : Act), (∀ j, j < l.length → l[j]? = ops[k + j]?) → k + l.length = n → HeadInv md ops n s →
  Region.lexHead md ops g l.length k s = true → wpQuiet P ops C R l a → hd P md ops C n (fun s' a' => Region.seqB md ops g n s' = true ∧ R a') l.length s a
 | [], k, s, a, _, hk, _, hB, h => by
  obtain rfl : k = n := by simpa using hk
  exact ⟨by simpa [Region.lexHead] using hB, h⟩
 | o :: l, k, s, a, hl, hk, inv, hB, h => by
  have h0 : ops[k]? = some o := by simpa using (hl 0 (by simp)).symm
  simp only [aY, Region.lexHead, aM] at hB;obtain ⟨⟨hr, hf⟩, hB'⟩ := hB;have hkn : k < n := by simp only [aY] at hk; omega
  have hr' : k ∈ Region.ready md ops s := by simpa using hr
  have hq : qOp P ops C k (wpQuiet P ops C R l) a := by unfold qOp; simp only [h0]; exact h
  obtain ⟨v, hy, hK⟩ := yieldsIn_of_qOp h0 hq;exact zJn h0 (Region.noSelect_spec hsel) hs hc hn hkn (fun s' a' h' => seqB_ready h'.1) l.length s a inv (Region.free_spec h0 hf) hr' hy
   (Wk hsel hs hc hn l (k + 1) _ _ (fun j hj => by have := hl (j + 1) (by simp; omega); simpa [cM, Nat.add_comm 1 j] using this) (by simp only [aY] at hk; omega) (inv.set hr' hkn) hB' hK)
theorem tP {id : Nat} {Q : Exit → Act → World → Prop} {a : Act} {w : World} {l : List Oper} (n : Nat) (hm : P.follows .mixedOrders = true) (hB : Region.lexTailB .any l.toArray n = true) (hw : C w.drew)
  (h : wpQuiet P l.toArray C (fun a' => ∀ w', C w' → wpList P l.toArray Q (l.drop n) a' w') (l.take n) a) : (Code.region id l.toArray true).wp P Q a w := by
 simp only [Region.lexTailB, aM, aU] at hB;obtain ⟨⟨⟨⟨hsel, hn⟩, hs⟩, hc⟩, QC⟩ := hB;have hn' : n < l.length := by simpa using hn
 have htl : (l.take n).length = n := by simp; omega
 have iw : (l.drop n).length = l.toArray.size - n := by simp
 have QD : HeadInv .any l.toArray n (Array.replicate l.toArray.size false) :=
  ⟨by simp, fun j oj _ hl => (by rw [aZ] at hl; cases hl), fun t _ ht => getD_in (by simpa using ht) (aZ _ _)⟩
 have H := Wk (md := .any) (g := l.toArray.size - n) hsel hs hc hn (l.take n) 0 _ a (fun j hj => by
  have hj' : j < n := by rw [htl] at hj; exact hj
  simp [hj']) (by simpa using htl) QD (by rw [htl]; exact QC) h
 refine wp_region_any hm ?_
 have := Wj (Q := Q) (g := l.toArray.size - n) (fun s a' w' dY hL => by
  have := wpAny_of_seq (md := .any) (Q' := Q) (l.drop n) n s a' w' (fun j => by simp [cL]) (by rw [iw]; exact hL.1) (hL.2 w' dY)
  rwa [iw] at this) _ _ _ w.drew hw H
 rw [htl, show n + (l.toArray.size - n) = l.toArray.size by omega] at this;exact this
end
theorem tW {P : Program} {id : Nat} {Q : Exit → Act → World → Prop} {a : Act} {w : World} {l : List Oper} (n : Nat) (hm : P.follows .mixedOrders = true) (hB : Region.lexTailB .any l.toArray n = true)
  (h : wpQuiet P l.toArray (fun w' => ∃ p : dU w, w' = p.w') (fun a' => ∀ w', (∃ p : dU w, w' = p.w') → wpList P l.toArray Q (l.drop n) a' w') (l.take n) a) : (Code.region id l.toArray true).wp P Q a w :=
 tP (C := fun w' => ∃ p : dU w, w' = p.w') n hm hB ⟨⟨w.drew, ⟨rfl, rfl, rfl, ai _, fun _ _ => rfl⟩⟩, rfl⟩ h
end Go.Proofs.YtcgfilmmokmdjaaGreat
namespace Go.Proofs.YtcgfilmmokmdjaaGreat
open Go.RowKit
def xA (M : Mp) (n : Int) : Mp := if yw M = true ∧ 0 ≤ n ∧ n ≤ 1099511627776 - M.dR then ⟨M.st, M.live, M.dR + n⟩ else M
theorem tB {M : Mp} (h : fK M) (hs : ∀ i, i < 8 → (M.st i).length ≤ 10000) : Fx.Small M.live ∧ 0 ≤ M.live ∧ M.live ≤ 400000000 := by
 have h1 := tR hs;have h2 := tp (vA M);have h3 := h.lv;have : (vA M).length * 4127 ≤ 80000 * 4127 := aX _ h1;unfold Fx.Small;rw [Fx.KI];omega
theorem zq {a : Int} (h1 : -9007199254740991 ≤ a) (h2 : a ≤ 9007199254740991) : Fx.Small a := by
 unfold Fx.Small; rw [Fx.KI]; omega
theorem NR {a b c d : Int} (ha : Fx.Small a) (hb : Fx.Small b) (hc : Fx.Small c) (hd : Fx.Small d) (hac : Fx.Small (a + c)) (GX : Fx.Small (b + d)) (t : TypeId) (W : World) :
  (binOp .add t (.complex .f64 (Fx.fb a) (Fx.fb b)) (.complex .f64 (Fx.fb c) (Fx.fb d))).run Tryz.prog W = .ok (.complex .f64 (Fx.fb (a + c)) (Fx.fb (b + d))) W :=
 run_complex_sum W .add (.inl rfl) t .f64 _ _ _ _ _ _ (by
  unfold cSumBits floatBits
  show ((FloatKind.f64.format.add _ _).bind _) = _
  rw [show FloatKind.f64.format.add (Fx.fb a) (Fx.fb c) = some (Fx.fb (a + c)) from Fx.C7 a c ha hc hac, show FloatKind.f64.format.add (Fx.fb b) (Fx.fb d) = some (Fx.fb (b + d)) from Fx.C7 b d hb hd GX]
  rfl)
theorem vT (s : Sl) (M : Mp) (n : Int) (w : World) (h : fp w s M.st) (hs : ∀ i, i < 8 → (M.st i).length ≤ 10000) :
  Calls Tryz.prog 54 #[yA s M.live M.dR, .int .i64 n] w fun e w' => (∃ s', e = .returned (yA s' (xA M n).live (xA M n).dR) ∧ eS w' w.heap.size s' (xA M n).st) ∧ Below w.heap.size w w' := by
 have HV := zh (fun s W h => vS s M W h (fun i hi => ak (hs i hi) (by decide)));have eB := zh ((ew.new w s M.live M.dR 36).below (zP (w.alloc (.cells (yN s M.live M.dR) 36)) Sl.nil 0 0 36));have nX := zh (ew.new (w.alloc (.cells (yN s M.live M.dR) 36)) Sl.nil 0 0 36);have eA := zh (zA (zP w s M.live M.dR 36) (zP (w.alloc (.cells (yN s M.live M.dR) 36)) Sl.nil 0 0 36));rw [show (w.alloc (.cells (yN s M.live M.dR) 36)).heap.size = w.heap.size + 1 by simp] at nX;have HC := zh (fun W h => qr s M.live M.dR M.st W h (fun i hi => ak (hs i hi) (by decide)));have Hr := zh h;have K1 := zh (fun hv : yw M = true => (⟨tB ((zV M).1 hv) hs, ((zV M).1 hv).g0, ((zV M).1 hv).g1⟩ : _ ∧ _ ∧ _));have HW := zh (show xA M n = if yw M = true ∧ 0 ≤ n ∧ n ≤ 1099511627776 - M.dR then ⟨M.st, M.live, M.dR + n⟩ else M from rfl);clear h hs;generalize yw M = vb at *;generalize xA M n = WM at *;obtain ⟨f, L, G⟩ := M
 dsimp only at *
 go_enter Tryz.func54, Tryz.ntmps54
 go_wp2_with fail;refine (HC.out _ (Hr.out.below eA.out)).mono ?_; rintro e w1 ⟨⟨s1, rfl, eM⟩, dW⟩;have fk := zh (eB.out.below dW);have sL := zh (nX.out.below dW);have eO := zh (zA eA.out dW);have mQ := zh (eM.mono (show w.heap.size + 2 ≤ _ by simp));obtain ⟨c0, c1, c2, c3, c4, c5, c6, c7, c8, c9⟩ := fk.out.q;have cF := fk.out.f;clear eM dW HC eB nX eA;go_upto_region 2 with fail;change Code.wp _ _ _ _ (yC w1 w.heap.size s1 L G);obtain ⟨V, hV⟩ : ∃ V, yC w1 w.heap.size s1 L G = V := ⟨_, rfl⟩
 have Bc := zh (show ew V w.heap.size s1 L G from hV ▸ fk.out.all s1 L G);have FJ := zh (show ew V (w.heap.size + 1) Sl.nil 0 0 from hV ▸ sL.out.mo (by omega) s1 L G);have mU := zh (show Below w.heap.size w V from hV ▸ zY eO.out (ai _) s1 L G);have Dc := zh (show eS V (w.heap.size + 2) s1 f from hV ▸ mQ.out.lg (by omega) s1 L G);rw [hV];clear hV c0 c1 c2 c3 c4 c5 c6 c7 c8 c9 cF fk sL eO mQ;obtain ⟨c0, c1, c2, c3, c4, c5, c6, c7, c8, c9⟩ := Bc.out.q;have cF := Bc.out.f;go_wp2_with fail;refine (HV.out s1 V Dc.out.rd).mono ?_; rintro e w2 ⟨rfl, ez⟩;have fQ := zh (Bc.out.below ez);have il := zh (FJ.out.below ez);have eN := zh (zA mU.out ez);have fW := zh (Dc.out.keep ez);clear ez c0 c1 c2 c3 c4 c5 c6 c7 c8 c9 cF Bc FJ mU Dc HV;obtain ⟨c0, c1, c2, c3, c4, c5, c6, c7, c8, c9⟩ := fQ.out.q;have cF := fQ.out.f;obtain ⟨d0, d1, d2, d3, d4, d5, d6, d7, d8, d9⟩ := il.out.q;have dF := il.out.f
 by_cases hok : vb = true ∧ 0 ≤ n ∧ n ≤ 1099511627776 - G
 ·
  rw [ag hok] at HW;obtain ⟨rfl, h1, h2⟩ := hok;obtain ⟨⟨FK, QE, KQ⟩, FL, Cy⟩ := K1.out rfl;have g1 : decide (n < 0) = false := by simp; omega
  have j1 : IntKind.i64.wrap (1099511627776 - G) = 1099511627776 - G := aH _ (by omega);have g2 : decide (1099511627776 - G < n) = false := by simp; omega
  have GY := zh (fun u : dU w2 => uk s1 L G u.w');have JG := zh (fun W => Qc s1 L G L (G + n) FK (zq (by omega) (by omega)) W);have lZ := fun W => NR (a := L) (b := G) (c := 0) (d := n) FK (zq (by omega) (by omega)) (zq (by omega) (by omega)) (zq (by omega) (by omega)) (by rw [Int.add_zero]; exact FK) (zq (by omega) (by omega)) 168 W
  have hz : Fx.fb 0 = 0 := rfl;rw [Int.add_zero, hz] at lZ;have hfn : floatOfInt .f64 n = Fx.fb n := rfl;obtain ⟨e0, e1, e2, e3, e4, e5, e6, e7, e8, e9⟩ := fQ.out.q;have eF := fQ.out.f;go_wp2_with fail;have f0 := zB e0;have f1 := zB e1;have f2 := zB e2;have f3 := zB e3;have f4 := zB e4;have f5 := zB e5;have f6 := zB e6;have f7 := zB e7;have f8 := zB e8;have f9 := zB e9;refine tW 7 (by kernel_rfl) (by kernel_rfl) ?_;simp only [List.take_succ_cons, List.take_zero, List.drop_succ_cons, List.drop_zero]
  repeat (go_big_quiet_step (exact zG (GY.out _)))
  refine aC ?_;intro _ dY;obtain ⟨u, dY⟩ := dY;subst dY;have HYu := zh (il.out.below u.h);have NS := zh (zA eN.out u.h);have HOu := zh (fW.out.keep u.h);generalize u.w' = w3 at *;clear c0 c1 c2 c3 c4 c5 c6 c7 c8 c9 cF d0 d1 d2 d3 d4 d5 d6 d7 d8 d9 dF e0 e1 e2 e3 e4 e5 e6 e7 e8 e9 eF f0 f1 f2 f3 f4 f5 f6 f7 f8 f9 lZ;go_wp2_with fail;refine (JG.out _).mono ?_; rintro e w4 ⟨rfl, hb4⟩;have pM := zh (HYu.out.below hb4);have fM := zh (zA NS.out hb4);have iy := zh (HOu.out.keep hb4);clear hb4;obtain ⟨d0, d1, d2, d3, d4, d5, d6, d7, d8, d9⟩ := pM.out.q;have dF := pM.out.f;go_wp2_with fail;change bodyPost _ _ _ _ _ (yC w4 (w.heap.size + 1) s1 L (G + n));have hby := pM.out.all s1 L (G + n);have mr := zh ((iy.out.lg (show w.heap.size + 1 < w.heap.size + 2 by omega) s1 L (G + n)).mono (show w.heap.size ≤ w.heap.size + 2 by omega));have ea := zh (zY fM.out (Nat.le_succ _) s1 L (G + n))
  generalize yC w4 (w.heap.size + 1) s1 L (G + n) = V2 at *;exact aw (v := yA s1 L (G + n)) (by simp [results, Tryz.results54, go_sem, hby.q]) rfl ⟨⟨s1, by rw [HW.out], by rw [HW.out]; exact mr.out⟩, ea.out⟩
 rw [ah hok] at HW
 cases vb
 ·
  clear hok;go_wp2_with fail;change bodyPost _ _ _ _ _ (yC w2 (w.heap.size + 1) s1 L G);have hby := il.out.all s1 L G;have mr := zh ((fW.out.lg (show w.heap.size + 1 < w.heap.size + 2 by omega) s1 L G).mono (show w.heap.size ≤ w.heap.size + 2 by omega));have ea := zh (zY eN.out (Nat.le_succ _) s1 L G);generalize yC w2 (w.heap.size + 1) s1 L G = V2 at *;exact aw (v := yA s1 L G) (by simp [results, Tryz.results54, go_sem, hby.q]) rfl ⟨⟨s1, by rw [HW.out], by rw [HW.out]; exact mr.out⟩, ea.out⟩
 by_cases h1 : n < 0
 ·
  have g1 : decide (n < 0) = true := by simpa using h1
  clear hok;go_wp2_with fail;change bodyPost _ _ _ _ _ (yC w2 (w.heap.size + 1) s1 L G);have hby := il.out.all s1 L G;have mr := zh ((fW.out.lg (show w.heap.size + 1 < w.heap.size + 2 by omega) s1 L G).mono (show w.heap.size ≤ w.heap.size + 2 by omega));have ea := zh (zY eN.out (Nat.le_succ _) s1 L G);generalize yC w2 (w.heap.size + 1) s1 L G = V2 at *;exact aw (v := yA s1 L G) (by simp [results, Tryz.results54, go_sem, hby.q]) rfl ⟨⟨s1, by rw [HW.out], by rw [HW.out]; exact mr.out⟩, ea.out⟩
 have g1 : decide (n < 0) = false := by simpa using h1
 obtain ⟨_, FL, Cy⟩ := K1.out rfl;have j1 : IntKind.i64.wrap (1099511627776 - G) = 1099511627776 - G := aH _ (by omega);have g2 : decide (1099511627776 - G < n) = true := by
  have : ¬ n ≤ 1099511627776 - G := fun e => hok ⟨rfl, by omega, e⟩
  simp; omega
 clear hok;go_wp2_with fail;change bodyPost _ _ _ _ _ (yC w2 (w.heap.size + 1) s1 L G);have hby := il.out.all s1 L G;have mr := zh ((fW.out.lg (show w.heap.size + 1 < w.heap.size + 2 by omega) s1 L G).mono (show w.heap.size ≤ w.heap.size + 2 by omega));have ea := zh (zY eN.out (Nat.le_succ _) s1 L G);generalize yC w2 (w.heap.size + 1) s1 L G = V2 at *;exact aw (v := yA s1 L G) (by simp [results, Tryz.results54, go_sem, hby.q]) rfl ⟨⟨s1, by rw [HW.out], by rw [HW.out]; exact mr.out⟩, ea.out⟩
theorem zC7 {w : World} {hb g : Nat} {ca cb : Array Value} (hne : hb ≠ g) (ha : w.heap[hb]? = some (.cells ca 49 (0, 0))) (hb' : w.heap[g]? = some (.cells cb 49 (0, 0))) (hn : cb.size ≠ 0) (off : Nat) :
  ∀ la c lb d, (callFunc 179 #[.slice (some ⟨hb, 0, none⟩) la c, .slice (some ⟨g, off, none⟩) lb d]).run Tryz.prog w = .ok (.value (.bool false)) w := fun la c lb d => by
 rw [run_callFunc_extern Tryz.func179 (by kernel_rfl) (by kernel_rfl) (by kernel_rfl) (e := Extern.SlicesOverlaps.overlaps #[33, 33] #[4]) (by kernel_rfl),
  Lib.run_overlaps_apart w 33 4 49 de 4 (wD yE).2 ⟨hb, 0, none⟩ ⟨g, off, none⟩ la c lb d hne 49 49 ca.size cb.size (by simp [World.shape?, ha]) (by simp [World.shape?, hb']) hn (by simp [World.frozen?, ha]) (by simp [World.frozen?, ha])]
 rfl
theorem qh (g n cap k : Nat) (hk : k + 1 ≤ n) (hc : k + 1 < cap) :
  ∀ W kl, (Instr.slice 33 (.slice (some ⟨g, 0, none⟩) n cap) (some (.int kl ((k : Int) + 1))) none none).run Tryz.prog W = .ok (.slice (some ⟨g, (k + 1) * 4, none⟩) (n - (k + 1)) (cap - (k + 1))) W := fun W kl => by
 have := tw (P := Tryz.prog) yE g n cap (k + 1) hk hc W kl;rw [cT] at this;exact this
theorem QF {w : World} {B g n cap : Nat} {xs : List Value} (h : w.ownsRow B 49 4 (.slice (some ⟨g, 0, none⟩) n cap) n xs) (k : Nat) (hk : k ≤ n) (hc : k < cap) :
  Rd w 4 (.slice (some ⟨g, k * 4, none⟩) (n - k) (cap - k)) (n - k) (xs.drop (k * 4)) := by
 have hx := h.1;have := qI (zr h) k n hk (ai _);have hne : cap ≠ k := by omega
 unfold sliced at this;rw [ah hne] at this;simp only [dw, yP, aJ] at this;rw [aS (by rw [aK, hx, Nat.sub_mul]; omega)] at this;exact this
theorem QG {w : World} {B g n cap : Nat} {xs : List Value} (h : w.ownsRow B 49 4 (.slice (some ⟨g, 0, none⟩) n cap) n xs) : ∃ cur, w.heap[g]? = some (.cells cur 49 (0, 0)) ∧ cur.size = cap * 4 ∧ n ≤ cap := by
 rcases h.2 with ⟨h', _⟩ | ⟨g', c2, cur, h', hb, hg, hnc, p_, hcs, jd⟩
 ·
  cases h'
 injection h' with h' _ h'';injection h' with h';injection h' with h' _;subst h' h'';exact ⟨cur, hg, hcs, hnc⟩
theorem zKy (v : Value) (l : List It) (i : Nat) (x : It) (hb B : Nat) (w : World) (hown : fc w B v l) (hB : B ≤ w.heap.size) (hi : i ≤ l.length) (hs : l.length ≤ 1000000)
  (hh : w.heap[hb]? = some (.cells (gW x).toArray 49 (0, 0))) (hne : ∀ k, v.ownBlock = some k → k ≠ hb) :
  Calls Tryz.prog 142 #[v, .int .i64 (i : Int), .slice (some ⟨hb, 0, none⟩) 1 1] w fun e w' => ∃ v', e = .returned v' ∧ fc w' B v' (l.take i ++ x :: l.drop i) ∧ Below B w w' := by
 have ry : Rd w 4 (.slice (some ⟨hb, 0, none⟩) 1 1) 1 (gW x) := by
  refine ⟨rfl, some ⟨hb, 0, none⟩, 1, rfl, ai _, by unfold maxLen; omega, fun h => (by cases h), fun _ => ⟨hb, 0, rfl, fun j u hj => ?_⟩⟩;have : w.cell? ⟨hb, 0 + j, none⟩ = (gW x).toArray[0 + j]? := by simp [World.cell?, hh]
  rw [this, aJ, List.getElem?_toArray]; exact hj
 obtain ⟨oa, oc, rfl, Ap, Cp, oP⟩ := zO hown;have hm := BL Ap Cp;have gK := zh (show w.ownsRow B 49 4 _ l.length (zU l) from hown);have Hv := zh ry;have Hh := zh hh;have hl := yF l;have rA : zU (l.take i ++ x :: l.drop i) = (zU l).take (i * 4) ++ gW x ++ (zU l).drop (i * 4) := by
  rw [zu, uO, xl, uR, bt]
 have HF := zh rA;have AB := zh (zn l);have AE := zh (show ∀ u ∈ gW x, u.oneCell' = true by rw [← xM]; exact zn [x]);have pN : (gW x).length = 4 := rfl;generalize hn : l.length = n at *;have HN := zh hn;generalize zU l = xs at *;generalize gW x = c at *;have HL := zh hl;have rW := zh pN;clear hown ry hh hn rA hl pN oP
 by_cases hin : i = n
 ·
  subst hin;obtain ⟨x1, y1, g1, _, _⟩ := vR (P := Tryz.prog) yE (zr gK.out) i (ai _);clear hne
  go_enter Tryz.func142, Tryz.ntmps142
  go_wp2_with (at_builtin; go_must (refine zd rfl (.tmp 23) (.tmp 24) 33 rfl yE B rfl gK.out rfl Hv.out AE.out (by unfold maxLen; omega) (by omega) hB ?_); intro v4 w4 eZ gF C5; clear C5);go_ret;refine ⟨_, rfl, yI eZ ?_, zM (aj _ _) gK.out hB gF⟩;rw [HF.out, aS (by rw [HL.out]; omega), bT (by rw [HL.out]; omega), bY]
 obtain ⟨g, rfl⟩ : ∃ g, oa = some ⟨g, 0, none⟩ := by
  rcases gK.out.2 with ⟨e, h0⟩ | ⟨g, _, _, e, _⟩
  ·
   omega
  injection e with e; exact ⟨g, e⟩
 have K2 : g ≠ hb := hne g rfl;have K3 : ((i : Int) == (n : Int)) = false := beq_eq_false_iff_ne.2 (by omega);have g1 := tw (P := Tryz.prog) yE g n oc i hi (by omega);clear hne
 by_cases hr : oc < n + 1
 ·
  obtain ⟨w2, c2, ha, eo, ez, GZ⟩ := zHP gK.out i (n + 1 - i) hi (by omega) (by omega) (by omega);have ha : ∀ ty, (Builtin.append_ #[33, 3] ty #[.slice (some ⟨g, 0, none⟩) i oc, .int .i64 ((n : Int) + 1 - (i : Int))]).run Tryz.prog w = .ok (.slice (some ⟨w.heap.size, 0, none⟩) (n + 1) c2) w2 := fun ty => by
   have := ha ty;rw [show ((n + 1 - i : Nat) : Int) = (n : Int) + 1 - (i : Int) by omega, show i + (n + 1 - i) = n + 1 by omega] at this;exact this
  rw [show i + (n + 1 - i) = n + 1 by omega] at eo;obtain ⟨_, _, _, G0⟩ := QG eo;have Dd := yq (P := Tryz.prog) yE (a := some ⟨g, 0, none⟩) (n := n) (cap := oc) (fun x hx => ⟨g, 0, by injection hx with hx; exact hx.symm⟩) i (by omega);have g2 := tw (P := Tryz.prog) yE w.heap.size (n + 1) c2 i (by omega) (by omega);obtain ⟨w3, G1, d_, eW⟩ := kN (P := Tryz.prog) (sT := 33) yE eo (Hv.out.below ez) i (n + 1 - i) (c2 - i) 1 (by simp [Nat.min_def]; omega) (by decide) (by decide) (by omega) (fun u hu => AE.out u (bQ hu));have eU : Below w.heap.size w w3 := ez.grown eW ez.size (by intro r hr; injection hr with hr; omega);have g3 := qh w.heap.size (n + 1) c2 i (by omega) (by omega)
  obtain ⟨w4, G4, eZ, gF⟩ := kN (P := Tryz.prog) (sT := 33) yE d_.drew ((QF gK.out i hi (by omega)).below eU.drew) (i + 1) (n - i) (c2 - (i + 1)) (n - i) (by simp) (by omega) (by decide) (by omega) (fun u hu => AB.out u (dy (bQ hu)));have hb4 : Below w.heap.size w w4 := eU.drew.grown gF eU.drew.size (by intro r hr; injection hr with hr; omega);have hgo : ((oc : Int) < (n : Int) + 1) := by omega
  have BS := zh (gK.out.1);have AF := zh eZ;have fM := zh hb4;clear ez eU hb4 eo d_ eZ eW gF G0
  go_enter Tryz.func142, Tryz.ntmps142
  go_wp2_with (at_builtin; go_must (refine Lib.wpList_append_run _ rfl (.tmp 34) (.tmp 39) 33 3 rfl _ _ rfl rfl _ _ (ha _) ?_));have j1 : IntKind.i64.wrap ((i : Int) + 1) = (i : Int) + 1 := aH _ (by omega);have j2 : (0 : Int) ≤ (i : Int) + 1 := by omega
  have j3 : (i : Int) + 1 ≤ (n : Int) + 1 := by omega
  have j4 : ((i : Int) + 1).toNat = i + 1 := by omega
  have j5 : (i : Int) ≤ (n : Int) := by omega
  go_region_held3 (fun _ => True) (trivial) (fail)
  go_wp2_with fail;go_ret;refine ⟨_, rfl, yI (AF.out.mono hB) ?_, fM.out.mono hB⟩;rw [HF.out];have hz : (zU (List.replicate (n + 1 - i) fF)).length = (n + 1 - i) * 4 := by rw [yF, dm]
  have hc1 : c.take (1 * 4) = c := aS (by rw [rW.out]; omega);have hx1 : (xs.drop (i * 4)).take ((n - i) * 4) = xs.drop (i * 4) := aS (by rw [aK, HL.out]; omega);rw [hc1, hx1];exact zH6 hi HL.out hz rW.out
 obtain ⟨ys, hy, eM⟩ := VM gK.out 1 (by omega);have Dd := yq (P := Tryz.prog) yE (a := some ⟨g, 0, none⟩) (n := n) (cap := oc) (fun x hx => ⟨g, 0, by injection hx with hx; exact hx.symm⟩) (n + 1) (by omega);simp only [cT] at Dd;rw [show ((1 : Nat) : Int) = 1 from rfl] at Dd;have g2 := tw (P := Tryz.prog) yE g (n + 1) oc i (by omega) (by omega);have g3 := qh g (n + 1) oc i (by omega) (by omega);obtain ⟨cur, hg, hcs, _⟩ := QG eM;have sH := zC7 (aO K2) Hh.out hg (by omega) ((i + 1) * 4)
 obtain ⟨w3, G1, d_, eW⟩ := kN (P := Tryz.prog) (sT := 33) yE eM.drew (QF eM.drew i (by omega) (by omega)) (i + 1) (n - i) (oc - (i + 1)) (n - i) (by simp [Nat.min_def]; omega) (by omega) (by decide) (by omega) (fun u hu => AB.out u (by
  rw [List.drop_append_of_le_length (by rw [HL.out]; omega), cD (by rw [aK, HL.out]; omega)] at hu
  exact dy hu))
 have eU : Below B w w3 := ((aj B w).drew).grown eW hB (by intro r hr; injection hr with hr; have := (eM.lt g rfl).1; omega);have mH := Rd.grown (Hv.out.drew) eW (fun y hy => by injection hy with hy; subst hy; intro e; injection e with e; exact K2 e.symm);obtain ⟨w4, G4, eZ, gF⟩ := kN (P := Tryz.prog) (sT := 33) yE d_ mH i (n + 1 - i) (oc - i) 1 (by simp [Nat.min_def]; omega) (by decide) (by decide) (by omega) (fun u hu => AE.out u (bQ hu));have hb4 : Below B w w4 := eU.grown gF (ak hB eU.size) (by intro r hr; injection hr with hr; have := (eM.lt g rfl).1; omega);have AF := zh eZ;have fM := zh hb4;have HY := zh hy;have hgo : ¬ ((oc : Int) < (n : Int) + 1) := by omega
 have j1 : IntKind.i64.wrap ((i : Int) + 1) = (i : Int) + 1 := aH _ (by omega);have j2 : (0 : Int) ≤ (i : Int) + 1 := by omega
 have j3 : (i : Int) + 1 ≤ (n : Int) + 1 := by omega
 have j4 : ((i : Int) + 1).toNat = i + 1 := by omega
 have j5 : (i : Int) ≤ (n : Int) := by omega
 clear eU hb4 eM d_ eZ eW gF mH hy hcs hg
 go_enter Tryz.func142, Tryz.ntmps142
 go_wp2_with (simp only [sH]);have j6 : (i : Int) ≤ (n : Int) + 1 := by omega
 go_region_held3 (fun _ => True) (trivial) (fail)
 go_wp2_with fail;go_ret;refine ⟨_, rfl, yI AF.out ?_, fM.out⟩;rw [HF.out];have hc1 : c.take (1 * 4) = c := aS (by rw [rW.out]; omega);rw [hc1];exact zHY hi HL.out (by rw [HY.out])
theorem zAf {P : Program} {w : World} {ops : Array Oper} {o : Oper} {a : Act} {K : Act → World → Prop} {Q : Exit → Act → World → Prop} {E : Prop} (hgd : o.guard = none) (s x : Operand) (t tn : TypeId)
  (ho : o.op = .call { callee := .builtin .append, args := #[s, x], argTypes := #[t, tn] }) (vs vx : Value) (hs : a.eval s = vs) (hx : a.eval x = vx)
  (v' : Value) (w' : World) (hr : (Builtin.append_ #[t, tn] o.type #[vs, vx]).run P w = .ok v' w') (h : K (a.put o.dst v') w') :
  if Region.wanted o (yielded ops a.tmps) = true then Oper.wp P o a w K Q else E := by
 have hw : Region.wanted o (yielded ops a.tmps) = true := by simp [Region.wanted, hgd]
 rw [ag hw];exact Lib.wp_append_run w s x t tn ho vs vx hs hx v' w' hr h
theorem zFZ {w : World} {B g n cap : Nat} {xs : List Value} (h : w.ownsRow B 49 4 (.slice (some ⟨g, 0, none⟩) n cap) n xs) (k : Nat) (hk : k + 1 ≤ n) :
  ∃ p c', (∀ W kl, (Instr.slice 33 (.slice (some ⟨g, 0, none⟩) n cap) (some (.int kl ((k : Int) + 1))) none none).run Tryz.prog W = .ok (.slice (some p) (n - (k + 1)) c') W) ∧
   Rd w 4 (.slice (some p) (n - (k + 1)) c') (n - (k + 1)) (xs.drop ((k + 1) * 4)) := by
 obtain ⟨_, _, _, hnc⟩ := QG h
 by_cases hq : k + 1 < cap
 ·
  exact ⟨_, _, qh g n cap k hk hq, QF h (k + 1) hk hq⟩
 obtain rfl : cap = k + 1 := by omega
 obtain rfl : n = k + 1 := by omega
 refine ⟨⟨g, 0, none⟩, 0, fun W kl => ?_, ?_⟩
 ·
  obtain ⟨h1, h2⟩ := wD (P := Tryz.prog) yE;rw [run_slice_l W 33 (some ⟨g, 0, none⟩) (k + 1) (k + 1) h1 kl ((k : Int) + 1) (by omega) (by omega), h2];have : ((k : Int) + 1).toNat = k + 1 := by omega
  simp [Result.andThen, sliced, this]
 have hx := h.1;rw [bT (by omega), Nat.sub_self];exact ⟨rfl, some ⟨g, 0, none⟩, 0, rfl, ai _, au _, fun h => (by cases h), fun h => absurd h (by simp)⟩
theorem zFO (g p cap : Nat) (hc : p + 1 ≤ cap) :
  ∀ W kl kh, (Instr.slice 33 (.slice (some ⟨g, 0, none⟩) p cap) (some (.int kl (p : Int))) (some (.int kh ((p : Int) + 1))) none).run Tryz.prog W = .ok (.slice (some ⟨g, p * 4, none⟩) 1 (cap - p)) W := fun W kl kh => by
 obtain ⟨h1, h2⟩ := wD (P := Tryz.prog) yE;rw [run_slice_lh W 33 (some ⟨g, 0, none⟩) p cap h1 kl kh (p : Int) ((p : Int) + 1) (by omega) (by omega) (by omega), h2];have h3 : ((p : Int) + 1).toNat = p + 1 := by omega
 have h4 : cap ≠ p := by omega
 simp [Result.andThen, sliced, h3, h4, yP]
theorem zEd (a : Option Addr) (n cap i : Nat) (hi : i + 1 ≤ n) (hn : n ≤ cap) :
  ∃ u, ∀ W kl kh km, (Instr.slice 33 (.slice a n cap) (some (.int kl (i : Int))) (some (.int kh ((i : Int) + 1))) (some (.int km (n : Int)))).run Tryz.prog W = .ok u W := by
 obtain ⟨h1, h2⟩ := wD (P := Tryz.prog) yE;refine ⟨sliced a (i : Int).toNat ((i : Int) + 1).toNat (n : Int).toNat 4, fun W kl kh km => ?_⟩;rw [run_slice_lhm W 33 a n cap h1 kl kh km (i : Int) ((i : Int) + 1) (n : Int) (by omega) (by omega) (by omega) (by omega), h2]
 rfl
theorem zJ9 (v : Value) (l : List It) (i B : Nat) (w : World) (hown : fc w B v l) (hB : B ≤ w.heap.size) (hi : i < l.length) (hs : l.length ≤ 1000000) :
  Calls Tryz.prog 137 #[v, .int .i64 (i : Int), .int .i64 ((i : Int) + 1)] w fun e w' => ∃ v', e = .returned v' ∧ fc w' B v' (l.take i ++ l.drop (i + 1)) ∧ Below B w w' := by
 obtain ⟨oa, oc, rfl, Ap, Cp, oP⟩ := zO hown;have rA : zU (l.take i ++ l.drop (i + 1)) = (zU l).take (i * 4) ++ (zU l).drop ((i + 1) * 4) := by
  rw [zu, xl, uR]
 have HF := zh rA;have AB := zh (zn l);have hl := yF l;obtain ⟨p, hp⟩ : ∃ p, l.length = p + 1 := ⟨l.length - 1, by omega⟩
 have hown' : w.ownsRow B 49 4 _ l.length (zU l) := hown;clear hown;have hown := hown';clear hown';have Bd : (l.take i ++ l.drop (i + 1)).length = p := by rw [aA, ay, aK]; omega
 rw [hp] at hown Ap hl hs hi ⊢;generalize zU l = xs at *;obtain ⟨g, rfl⟩ : ∃ g, oa = some ⟨g, 0, none⟩ := by
  rcases hown.2 with ⟨e, h0⟩ | ⟨g, _, _, e, _⟩
  ·
   omega
  injection e with e; exact ⟨g, e⟩
 have Dd := yq (P := Tryz.prog) yE (a := some ⟨g, 0, none⟩) (n := p + 1) (cap := oc) (fun x hx => ⟨g, 0, by injection hx with hx; exact hx.symm⟩) i (by omega);obtain ⟨q, qc, g1, gw⟩ := zFZ hown i hi;obtain ⟨w3, hap, d_, eW⟩ := zIH (vL hown i (by omega)).drew gw.drew (fun u hu => AB.out u (dy hu)) (by omega);have e1 : i + (p + 1 - (i + 1)) = p := by omega
 rw [e1] at hap d_;have hgB := (hown.lt g rfl).1;have eU : Below B w w3 := ((aj B w).drew).grown eW hB (by intro r hr; injection hr with hr; omega);obtain ⟨ys, hy, eZ⟩ := VM d_ 1 (by omega);obtain ⟨w5, q_, fC, gM⟩ := zHq eZ p (by omega);have e2 : p + 1 - p = 1 := by omega
 rw [e2] at q_;have iU : Below B w w5 := eU.grown gM (ak hB eU.size) (by intro r hr; injection hr with hr; omega);obtain ⟨u3, g3⟩ := zEd (some ⟨g, 0, none⟩) (p + 1) oc i hi Ap;simp only [cT] at g3;rw [show ((1 : Nat) : Int) = 1 from rfl] at g3;have g2 := zFO g p oc (by omega);have G5 := d_.1;have jC := vL fC p (by omega);rw [dI (by rw [ay, aA, G5]; omega), cZ, Nat.min_self, cD G5] at jC;have HR := zh jC;have gj := zh iU;have C6 := zh Bd;have K3 : ((i : Int) == (i : Int) + 1) = false := beq_eq_false_iff_ne.2 (by omega);have j1 : IntKind.i64.wrap ((i : Int) + 1) = (i : Int) + 1 := aH _ (by omega);have hm : oc ≤ 9223372036854775807 := by unfold maxLen at Cp; omega
 clear hown d_ eZ fC jC eW gM eU iU gw hl G5 Bd rA oP hp e1 e2 hy
 go_enter Tryz.func137, Tryz.ntmps137
 go_wp2_with fail;have j2 : (0 : Int) ≤ (i : Int) + 1 := by omega
 have j3 : (i : Int) + 1 ≤ (p : Int) + 1 := by omega
 have j4 : ((i : Int) + 1).toNat = i + 1 := by omega
 have j5 : (i : Int) ≤ (p : Int) + 1 := by omega
 have j6 : (i : Int) ≤ (oc : Int) := by omega
 go_region_held3 (fun _ => True) (trivial) (refine zAf rfl (.tmp 22) (.tmp 25) 33 33 rfl _ _ (by simp [Act.eval]) (by simp [Act.eval]) _ _ (hap _) ?_)
 go_wp2_with fail;go_ret;exact ⟨_, rfl, yI HR.out HF.out.symm, gj.out⟩
theorem zK7 (v : Value) (l : List It) (x : It) (w : World) (h : iP w v l) (hk : wR l) (hs : l.length ≤ 100000) :
  Calls Tryz.prog 101 #[v, jB x] w fun e w' => ∃ v', e = .returned v' ∧ fc w' w.heap.size v' (ins (fw l) x) ∧ Below w.heap.size w w' := by
 have HS := zh (fun w h => hk v w h);have hlen := yU l;have HA := zh (wi l);have HF := zh (fun v w h => qe v (fw l) x.key w h (by omega));have D_ := zh (fun v i hb B w h1 h2 h3 => zKy v (fw l) i x hb B w h1 h2 h3 (by omega));have jL := zh (fun r (h : Place (fw l) x.key r) => zLb h (wi l));have Hr := zh h;obtain ⟨a, cap, rfl, _, _⟩ := h.shape;generalize fw l = s at *;generalize ins s x = res at *;obtain ⟨W0, eR⟩ : ∃ W0, W0 = w.alloc (.cells #[.int .u64 x.key, .int .u32 x.ck, .int .i64 x.off, .int .i64 x.size] 49) := ⟨_, rfl⟩
 have hb0 : Below w.heap.size w W0 := by rw [eR]; exact (aj _ _).alloc (ai _) _
 have eA := zh hb0;have d0 : W0.cell? ⟨w.heap.size, 0, none⟩ = some (.int .u64 x.key) := by rw [eR]; simp
 have d1 : W0.cell? ⟨w.heap.size, 1, none⟩ = some (.int .u32 x.ck) := by rw [eR]; simp
 have d2 : W0.cell? ⟨w.heap.size, 2, none⟩ = some (.int .i64 x.off) := by rw [eR]; simp
 have d3 : W0.cell? ⟨w.heap.size, 3, none⟩ = some (.int .i64 x.size) := by rw [eR]; simp
 have oQ := zh eR;have hs0 : w.heap.size ≤ W0.heap.size := hb0.size;clear h hk eR hb0
 go_enter Tryz.func101, Tryz.ntmps101
 go_wp2_with fail;rw [← oQ.out];refine (HS.out _ (Hr.out.below eA.out)).mono ?_; rintro e w1 ⟨v1, rfl, eM, dW⟩;have HO := zh eM;have HB := zh dW;have e0 := Below.keeps dW _ _ d0;have e1 := Below.keeps dW _ _ d1;have e2 := Below.keeps dW _ _ d2;have e3 := Below.keeps dW _ _ d3;clear eM dW d0 d1 d2 d3;go_wp2_with fail;refine (HF.out _ _ HO.out.rd).mono ?_; rintro e w2 ⟨⟨r, hp, rfl⟩, ez⟩;have eN := zh (HB.out.trans (ez.mono HB.out.size));have fW := zh (zH HO.out ez);have HP := zh hp;have d0 := Below.keeps ez _ _ e0;have d1 := Below.keeps ez _ _ e1;have d2 := Below.keeps ez _ _ e2;have d3 := Below.keeps ez _ _ e3;clear ez hp e0 e1 e2 e3;have nK := zh (jL.out r HP.out);obtain ⟨oa, oc, rfl, Ap, Cp, oP⟩ := zO fW.out;have hs2 : W0.heap.size ≤ w2.heap.size := eN.out.size
 by_cases hy : r < s.length ∧ (dS s r).key = x.key
 ·
  have HR := zh (nK.out.trans (ag hy));rw [aF hy];have hrl := hy.1;obtain ⟨g, rfl⟩ : ∃ g, oa = some ⟨g, 0, none⟩ := by
   rcases fW.out.2 with ⟨e, h0⟩ | ⟨g, _, _, e, _⟩
   ·
    omega
   injection e with e; exact ⟨g, e⟩
  have hgB := (fW.out.lt g rfl).1;obtain ⟨_, _, e, c0, c1, c2, c3⟩ := (yj (zr fW.out)).at hrl;injection e with e; injection e with e1 e2; subst e1 e2;simp only [aJ] at c0 c1 c2 c3;have f0 := fW.out.frozenAt (r * 4);have f1 := fW.out.frozenAt (r * 4 + 1);have f2 := fW.out.frozenAt (r * 4 + 2);have f3 := fW.out.frozenAt (r * 4 + 3);have jI := zh (PJ fW.out r hrl x);clear hy;generalize dS s r = y at *;generalize hn : s.length = n at *;go_wp2_with fail;go_ret;refine ⟨_, rfl, ?_, eA.out.trans (((((eN.out.setCell hgB _).setCell hgB _).setCell hgB _).setCell hgB _).mono hs0)⟩;rw [HR.out];exact (yI jI.out rfl).mono hs0
 have HR := zh (nK.out.trans (ah hy));rw [aD hy];clear hy;have hne : ∀ k, (Value.slice oa s.length oc).ownBlock = some k → k ≠ w2.heap.size := fun k hk => by have := (fW.out.lt k hk).2; omega
 have HC := zh (D_.out (.slice oa s.length oc) r w2.heap.size W0.heap.size (w2.alloc (.cells (gW x).toArray 49)) (fW.out.alloc _) (by simp; omega) HP.out.1 (cW w2 _) hne);have HBA := zh (eN.out.alloc hs2 (.cells (gW x).toArray 49));clear hne;go_wp2_with fail;refine HC.out.mono ?_; rintro e w3 ⟨v3, rfl, d_, eU⟩;have lz := zh d_;have fS := zh (HBA.out.trans eU);clear d_ eU;go_wp2_with fail;go_ret;refine ⟨_, rfl, ?_, eA.out.trans (fS.out.mono hs0)⟩;rw [HR.out];exact lz.out.mono hs0
theorem zIj (v : Value) (l : List It) (key : Int) (w : World) (h : iP w v l) (hk : wR l) (hs : l.length ≤ 100000) :
  Calls Tryz.prog 98 #[v, .int .u64 key] w fun e w' => ∃ v', e = .returned v' ∧ fc w' w.heap.size v' (gd (fw l) key) ∧ Below w.heap.size w w' := by
 have HS := zh (hk v w h);have hlen := yU l;have HF := zh (fun v w h => qe v (fw l) key w h (by omega));have HDe := zh (fun v i B w h1 h2 h3 => zJ9 v (fw l) i B w h1 h2 h3 (by omega));have jL := zh (fun r (h : Place (fw l) key r) => zG1 h (wi l));obtain ⟨a, cap, rfl, _, _⟩ := h.shape;generalize fw l = s at *;generalize gd s key = res at *;clear h hk
 go_enter Tryz.func98, Tryz.ntmps98
 go_wp2_with fail;refine HS.out.mono ?_; rintro e w1 ⟨v1, rfl, eM, dW⟩;have HO := zh eM;have HB := zh dW;clear eM dW;go_wp2_with fail;refine (HF.out _ _ HO.out.rd).mono ?_; rintro e w2 ⟨⟨r, hp, rfl⟩, ez⟩;have eN := zh (zA HB.out ez);have fW := zh (zH HO.out ez);have HP := zh hp;clear ez hp;have nK := zh (jL.out r HP.out);have hs2 : w.heap.size ≤ w2.heap.size := eN.out.size
 by_cases hy : r < s.length ∧ (dS s r).key = key
 ·
  have HR := zh (nK.out.trans (ag hy));rw [aF hy];have hrl := hy.1;have HC := zh (HDe.out v1 r w.heap.size w2 fW.out hs2 hrl);clear hy;go_wp2_with fail;refine HC.out.mono ?_; rintro e w3 ⟨v3, rfl, d_, eU⟩;have lz := zh d_;have fS := zh (eN.out.trans eU);clear d_ eU;go_wp2_with fail;go_ret;refine ⟨_, rfl, ?_, fS.out⟩;rw [HR.out];exact lz.out
 have HR := zh (nK.out.trans (ah hy));rw [aD hy];clear hy;go_wp2_with fail;go_ret;refine ⟨_, rfl, ?_, eN.out⟩;rw [HR.out];exact fW.out
def xN (y : It) : Nat := eG y.size.toNat
def yJ (M : Mp) (key : Int) : Mp :=
 match ze M key with
 | none => M
 | some y => if M.dR + (xN y : Int) ≤ 1099511627776 then ⟨fun i => if i = zh key then gd (M.st i) key else M.st i, M.live - (xN y : Int), M.dR + (xN y : Int)⟩ else M
theorem td (y : It) (hy : 0 ≤ y.size) (w : World) : Calls Tryz.prog 97 #[jB y] w fun e w' => e = .returned (.int .i64 (xN y : Int)) ∧ Below w.heap.size w w' :=
 (Vx y w).mono fun e w' ⟨⟨n, he, _, h⟩, hb⟩ => ⟨by rw [he, h hy]; rfl, hb⟩
theorem Wl {a b : Int} (ha : Fx.Small a) (hb : Fx.Small b) : (FloatKind.f64.format.order (Fx.fb a) (Fx.fb b) == some Ordering.gt) = decide (b < a) := by
 have h : FloatKind.f64.format.order (Fx.fb a) (Fx.fb b) = some (compare a b) := Fx.C8 a b ha hb;rw [h]
 show (some (compareOfLessAndEq a b) == some Ordering.gt) = _
 unfold compareOfLessAndEq
 by_cases h1 : a < b
 ·
  rw [ag h1, aD (by omega)]; rfl
 rw [ah h1]
 by_cases h2 : a = b
 ·
  rw [ag h2, aD (by omega)]; rfl
 rw [ah h2, aF (by omega)]; rfl
theorem xY {M : Mp} {key : Int} {y : It} (h : ze M key = some y) : yw M = true ∧ y ∈ M.st (zh key) ∧ y.key = key ∧ 0 ≤ y.size := by
 unfold ze at h
 split at h
 ·
  rename_i hv;obtain ⟨h1, h2⟩ := wV h;exact ⟨hv, h1, h2, kO (((zV M).1 hv).ok _ (wS key)) y h1⟩
 cases h
theorem NT (y : It) : xN y ≤ 4127 := xx _
theorem Wm (s : Sl) (M : Mp) (key : Int) (w : World) (h : fp w s M.st) (hs : ∀ i, i < 8 → (M.st i).length ≤ 10000) :
  Calls Tryz.prog 55 #[yA s M.live M.dR, .int .u64 key] w fun e w' => (∃ s', e = .returned (yA s' (yJ M key).live (yJ M key).dR) ∧ eS w' w.heap.size s' (yJ M key).st) ∧ Below w.heap.size w w' := by
 have HG := zh (fun s W h => Wi s M key W h hs);have eB := zh ((ew.new w s M.live M.dR 36).below (zP (w.alloc (.cells (yN s M.live M.dR) 36)) Sl.nil 0 0 36));have nX := zh (ew.new (w.alloc (.cells (yN s M.live M.dR) 36)) Sl.nil 0 0 36);have eA := zh (zA (zP w s M.live M.dR 36) (zP (w.alloc (.cells (yN s M.live M.dR) 36)) Sl.nil 0 0 36));rw [show (w.alloc (.cells (yN s M.live M.dR) 36)).heap.size = w.heap.size + 1 by simp] at nX;have HC := zh (fun W h => qr s M.live M.dR M.st W h (fun i hi => ak (hs i hi) (by decide)));have Hr := zh h;have jJ := wS key;have HS := zh (fun W => ut key W);have Cz := zh (fun y (hy : ze M key = some y) => (⟨tB ((zV M).1 (xY hy).1) hs, ((zV M).1 (xY hy).1).g0, ((zV M).1 (xY hy).1).g1, (xY hy).2.2.2, yK (vt (((zV M).1 (xY hy).1).ok _ jJ))⟩ : _ ∧ _ ∧ _ ∧ _ ∧ _))
 have CA := zh (fun v W h => zIj v (M.st (zh key)) key W h (wG _ (ak (hs _ jJ) (by decide))) (ak (hs _ jJ) (by decide)));have oQ := zh (show ze M key = none → yJ M key = M from fun h => by unfold yJ; rw [h]);have AH := zh (show ∀ y, ze M key = some y → M.dR + (xN y : Int) ≤ 1099511627776 → yJ M key = ⟨fun i => if i = zh key then gd (M.st i) key else M.st i, M.live - (xN y : Int), M.dR + (xN y : Int)⟩ from fun y h h2 => by unfold yJ; rw [h]; exact ag h2);have AI := zh (show ∀ y, ze M key = some y → ¬ M.dR + (xN y : Int) ≤ 1099511627776 → yJ M key = M from fun y h h2 => by unfold yJ; rw [h]; exact ah h2);clear h hs;generalize ze M key = o at *;generalize yJ M key = WM at *;generalize zh key = k at *;obtain ⟨f, L, G⟩ := M;dsimp only at *
 go_enter Tryz.func55, Tryz.ntmps55
 go_wp2_with fail;refine (HC.out _ (Hr.out.below eA.out)).mono ?_; rintro e w1 ⟨⟨s1, rfl, eM⟩, dW⟩;have fk := zh (eB.out.below dW);have sL := zh (nX.out.below dW);have eO := zh (zA eA.out dW);have mQ := zh (eM.mono (show w.heap.size + 2 ≤ _ by simp));obtain ⟨c0, c1, c2, c3, c4, c5, c6, c7, c8, c9⟩ := fk.out.q;have cF := fk.out.f;clear eM dW HC eB nX eA;go_upto_region 2 with fail;change Code.wp _ _ _ _ (yC w1 w.heap.size s1 L G);obtain ⟨V, hV⟩ : ∃ V, yC w1 w.heap.size s1 L G = V := ⟨_, rfl⟩
 have Bc := zh (show ew V w.heap.size s1 L G from hV ▸ fk.out.all s1 L G);have FJ := zh (show ew V (w.heap.size + 1) Sl.nil 0 0 from hV ▸ sL.out.mo (by omega) s1 L G);have mU := zh (show Below w.heap.size w V from hV ▸ zY eO.out (ai _) s1 L G);have Dc := zh (show eS V (w.heap.size + 2) s1 f from hV ▸ mQ.out.lg (by omega) s1 L G);rw [hV];clear hV c0 c1 c2 c3 c4 c5 c6 c7 c8 c9 cF fk sL eO mQ;obtain ⟨c0, c1, c2, c3, c4, c5, c6, c7, c8, c9⟩ := Bc.out.q;have cF := Bc.out.f;go_wp2_with fail;refine (HS.out _).mono ?_; rintro e w2 ⟨rfl, rfl⟩;go_wp2_with fail;refine (HG.out s1 V Dc.out.rd).mono ?_; rintro e w2 ⟨rfl, ez⟩;have fQ := zh ((Bc.out.below ez).below (z8 w2 (o.getD fF)));have il := zh ((FJ.out.below ez).below (z8 w2 (o.getD fF)));have eN := zh (zA (zA mU.out ez) (z8 w2 (o.getD fF)));have fW := zh ((Dc.out.keep ez).keep (z8 w2 (o.getD fF)));have nL := zh (gx.new w2 (o.getD fF))
 clear ez c0 c1 c2 c3 c4 c5 c6 c7 c8 c9 cF Bc FJ mU Dc HG HS
 cases o with
 | none =>
  have HW := zh (oQ.out rfl);go_upto_region 5 with fail;obtain ⟨V3, G6⟩ : ∃ V3, w2.alloc (xF fF) = V3 := ⟨_, rfl⟩
  rw [show w2.alloc (xF ((none : Option It).getD fF)) = V3 from G6] at fQ il eN fW;rw [G6];clear G6 nL;obtain ⟨c0, c1, c2, c3, c4, c5, c6, c7, c8, c9⟩ := fQ.out.q;have cF := fQ.out.f;obtain ⟨d0, d1, d2, d3, d4, d5, d6, d7, d8, d9⟩ := il.out.q;have dF := il.out.f;go_wp2_with fail;change bodyPost _ _ _ _ _ (yC V3 (w.heap.size + 1) s1 L G);have hby := il.out.all s1 L G;have mr := zh ((fW.out.lg (show w.heap.size + 1 < w.heap.size + 2 by omega) s1 L G).mono (show w.heap.size ≤ w.heap.size + 2 by omega));have ea := zh (zY eN.out (show w.heap.size ≤ w.heap.size + 1 by omega) s1 L G);generalize yC V3 (w.heap.size + 1) s1 L G = V9 at *;exact aw (v := yA s1 L G) (by simp [results, Tryz.results55, go_sem, hby.q]) rfl ⟨⟨_, by rw [HW.out], by rw [HW.out]; exact mr.out⟩, ea.out⟩
 | some y =>
  obtain ⟨⟨FK, QE, KQ⟩, FL, Cy, hy0, hsk⟩ := Cz.out y rfl;have FN := zh hy0;have Cw := zh hsk;have G7 := zh (AH.out y rfl);have G8 := zh (AI.out y rfl);clear Cz oQ AH AI hy0 hsk;go_upto_region 6 with fail;obtain ⟨V3, G6⟩ : ∃ V3, w2.alloc (xF y) = V3 := ⟨_, rfl⟩
  rw [show w2.alloc (xF ((some y).getD fF)) = V3 from G6] at fQ il eN fW nL;rw [show (some y).getD fF = y from rfl] at nL;rw [G6];clear G6;have hlen := NT y;have GY := zh (fun u : dU V3 => uk s1 L G u.w');have iM := zh (fun u : dU V3 => td y FN.out u.w');have Wn := zh (fun u : dU V3 => Vy (xN y) (by omega) u.w');generalize xN y = n at *;have lZ := fun W => NR (a := L) (b := G) (c := -(n : Int)) (d := (n : Int)) FK (zq (by omega) (by omega)) (zq (by omega) (by omega)) (zq (by omega) (by omega)) (zq (by omega) (by omega)) (zq (by omega) (by omega)) 168 W
  have hgt := Wl (a := G + (n : Int)) (b := 1099511627776) (zq (by omega) (by omega)) (zq (by omega) (by omega));rw [show Fx.fb 1099511627776 = 4787326403894837248 from rfl] at hgt;have JG := zh (fun s W => Qc s L G (L + -(n : Int)) (G + (n : Int)) (zq (by omega) (by omega)) (zq (by omega) (by omega)) W);have e : L + -(n : Int) = L - (n : Int) := by omega
  rw [e] at lZ JG;clear e;obtain ⟨c0, c1, c2, c3, c4, c5, c6, c7, c8, c9⟩ := fQ.out.q;have cF := fQ.out.f;obtain ⟨i0, i1, i2, i3⟩ := nL.out.t.q;have iF := nL.out.f;have f0 := zB c0;have f1 := zB c1;have f2 := zB c2;have f3 := zB c3;have f4 := zB c4;have f5 := zB c5;have f6 := zB c6;have f7 := zB c7;have f8 := zB c8;have f9 := zB c9;have k0 := zB i0;have k1 := zB i1;have k2 := zB i2;have k3 := zB i3;clear c0 c1 c2 c3 c4 c5 c6 c7 c8 c9 cF i0 i1 i2 i3 iF;refine zC (by kernel_rfl) (by kernel_rfl) ?_
  repeat (go_big_quiet_step ((first | exact zG (GY.out _) | exact zG (iM.out _) | exact zG (Wn.out _))))
  refine aC ?_;intro _ dY;obtain ⟨u, dY⟩ := dY;subst dY;have gJ := zh (fQ.out.below u.h);have mq := zh (il.out.below u.h);have fS := zh (zA eN.out u.h);have lz := zh (fW.out.keep u.h);generalize u.w' = w3 at *;clear f0 f1 f2 f3 f4 f5 f6 f7 f8 f9 k0 k1 k2 k3 GY iM Wn lZ fQ il eN fW nL
  by_cases hgo : G + (n : Int) ≤ 1099511627776
  ·
   have HW := zh (G7.out hgo);rw [aD (show ¬ (1099511627776 < G + (n : Int)) by omega)] at hgt;have Bb : s1.v k = .slice (s1.a k) (s1.n k) (s1.c k) := rfl;have ck := gJ.out.c k jJ;have G9 := zh (CA.out _ w3 (lz.out k jJ).rd);rw [Cw.out] at G9;rw [Bb] at ck G9;clear Bb;go_wp2_with fail;refine G9.out.mono ?_; rintro e w4 ⟨v4, rfl, eZ, hb4⟩;have gZ := zh (gJ.out.below hb4);have pM := zh (mq.out.below hb4);have fM := zh (zA fS.out hb4);have iy := zh (lz.out.keep hb4);have Wo := zh (eZ.mono (show w.heap.size + 2 ≤ w3.heap.size from mq.out.lt));obtain ⟨va, vc, C5, _⟩ := zO eZ;subst C5;clear eZ hb4 G9 ck gJ mq fS lz;have ck := gZ.out.c k jJ;have cf := gZ.out.f k;have Bb : s1.v k = .slice (s1.a k) (s1.n k) (s1.c k) := rfl;rw [Bb] at ck;generalize (gd (f k) key).length = dn at *;go_upto_region 10 with fail
   obtain ⟨V5, CB⟩ : ∃ V5, w4.setCell ⟨w.heap.size, k, none⟩ (.slice va dn vc) = V5 := ⟨_, rfl⟩
   have fh := zh (show ew V5 w.heap.size (s1.set k va dn vc) L G from CB ▸ gZ.out.EC jJ va dn vc);have pO := zh (show ew V5 (w.heap.size + 1) Sl.nil 0 0 from CB ▸ pM.out.dZ (p := ⟨w.heap.size, k, none⟩) (show w.heap.size ≠ w.heap.size + 1 by omega) _);have gj := zh (show Below w.heap.size w V5 from CB ▸ fM.out.setCell (p := ⟨w.heap.size, k, none⟩) (ai _) _);have jE := zh (show eS V5 (w.heap.size + 2) (s1.set k va dn vc) (fun i => if i = k then gd (f k) key else f i) from CB ▸ eS.set (fun i hi => yB (iy.out i hi) (p := ⟨w.heap.size, k, none⟩) (show w.heap.size < w.heap.size + 2 by omega) _) (show fc _ _ _ (gd (f k) key) from yI (yB Wo.out (p := ⟨w.heap.size, k, none⟩) (show w.heap.size < w.heap.size + 2 by omega) _) rfl));rw [CB];clear CB ck cf Bb gZ pM fM iy Wo;have hfe : (fun i => if i = k then gd (f k) key else f i) = (fun i => if i = k then gd (f i) key else f i) := funext fun i => by
    by_cases e : i = k
    ·
     rw [ag e, ag e, e]
    rw [ah e, ah e]
   rw [hfe] at jE;clear hfe;generalize s1.set k va dn vc = s2 at *;obtain ⟨c0, c1, c2, c3, c4, c5, c6, c7, c8, c9⟩ := fh.out.q;have cF := fh.out.f;go_wp2_with fail;refine (JG.out s2 V5).mono ?_; rintro e w6 ⟨rfl, l5⟩;have ia := zh (fh.out.below l5);have EJ := zh (pO.out.below l5);have jG := zh (zA gj.out l5);have mh := zh (jE.out.keep l5);clear l5 c0 c1 c2 c3 c4 c5 c6 c7 c8 c9 cF;generalize L - (n : Int) = L2 at *;generalize G + (n : Int) = G2 at *;obtain ⟨c0, c1, c2, c3, c4, c5, c6, c7, c8, c9⟩ := ia.out.q;have cF := ia.out.f;obtain ⟨d0, d1, d2, d3, d4, d5, d6, d7, d8, d9⟩ := EJ.out.q;have dF := EJ.out.f;go_wp2_with fail;change bodyPost _ _ _ _ _ (yC w6 (w.heap.size + 1) s2 L2 G2);have hby := EJ.out.all s2 L2 G2;have mr := zh ((mh.out.lg (show w.heap.size + 1 < w.heap.size + 2 by omega) s2 L2 G2).mono (show w.heap.size ≤ w.heap.size + 2 by omega))
   have ea := zh (zY jG.out (show w.heap.size ≤ w.heap.size + 1 by omega) s2 L2 G2);generalize yC w6 (w.heap.size + 1) s2 L2 G2 = V9 at *;exact aw (v := yA s2 L2 G2) (by simp [results, Tryz.results55, go_sem, hby.q]) rfl ⟨⟨_, by rw [HW.out], by rw [HW.out]; exact mr.out⟩, ea.out⟩
  have HW := zh (G8.out (by omega));rw [aF (show 1099511627776 < G + (n : Int) by omega)] at hgt;obtain ⟨c0, c1, c2, c3, c4, c5, c6, c7, c8, c9⟩ := gJ.out.q;have cF := gJ.out.f;obtain ⟨d0, d1, d2, d3, d4, d5, d6, d7, d8, d9⟩ := mq.out.q;have dF := mq.out.f;go_wp2_with fail;change bodyPost _ _ _ _ _ (yC w3 (w.heap.size + 1) s1 L G);have hby := mq.out.all s1 L G;have mr := zh ((lz.out.lg (show w.heap.size + 1 < w.heap.size + 2 by omega) s1 L G).mono (show w.heap.size ≤ w.heap.size + 2 by omega));have ea := zh (zY fS.out (show w.heap.size ≤ w.heap.size + 1 by omega) s1 L G);generalize yC w3 (w.heap.size + 1) s1 L G = V9 at *;exact aw (v := yA s1 L G) (by simp [results, Tryz.results55, go_sem, hby.q]) rfl ⟨⟨_, by rw [HW.out], by rw [HW.out]; exact mr.out⟩, ea.out⟩
end Go.Proofs.YtcgfilmmokmdjaaGreat
