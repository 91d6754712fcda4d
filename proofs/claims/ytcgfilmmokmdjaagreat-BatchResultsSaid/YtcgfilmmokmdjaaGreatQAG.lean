/- A part of the walk. -/
import Derived.StillTailTactics
import Derived.Deep.Quiet
import Derived.BigQuiet
import Derived.Test.YtcgfilmmokmdjaaGreatBase
import Derived.Test.YtcgfilmmokmdjaaGreatQAF
import Derived.Test.YtcgfilmmokmdjaaGreatQAE
import Derived.Laws.Externs
import Derived.Test.YtcgfilmmokmdjaaGreatQAB
set_option linter.all false
set_option maxRecDepth 100000
set_option maxHeartbeats 32000000
namespace Go.Proofs.YtcgfilmmokmdjaaGreat
open Go
section
variable {P : Program} {ops : Array Oper} {md : Region.Mode} {C : World → Prop}
def hd (P : Program) (md : Region.Mode) (ops : Array Oper) (C : World → Prop) (n : Nat) (L : Array Bool → Act → Prop) : Nat → Array Bool → Act → Prop
 | 0, s, a => L s a
 | f + 1, s, a => Region.ready md ops s ≠ [] ∧ ∀ i ∈ Region.ready md ops s, i < n ∧ qOp P ops C i (hd P md ops C n L f (s.setIfInBounds i true)) a
theorem VQ {n g : Nat} {L : Array Bool → Act → Prop} {Q : Exit → Act → World → Prop} (hL : ∀ s a w, C w → L s a → wpAny P md ops Q g s a w) :
  ∀ (f : Nat) (s : Array Bool) (a : Act) (w : World), C w → hd P md ops C n L f s a → wpAny P md ops Q (f + g) s a w
 | 0, s, a, w, hw, h => by rw [aJ]; exact hL _ _ _ hw h
 | f + 1, s, a, w, hw, h => by
  rw [show f + 1 + g = (f + g) + 1 by omega];exact ⟨fun e => absurd e h.1, fun i hi => wpOp_of_qOp hw (fun a' w' hw' h' => VQ hL f _ a' w' hw' h') (h.2 i hi).2⟩
theorem zJn {n i : Nat} {o : Oper} {v : Value} {L : Array Bool → Act → Prop} (hi : ops[i]? = some o) (hsel : ∀ (j : Nat) (o : Oper) cs b, ops[j]? = some o → o.op ≠ .select cs b)
  (hs : Region.sinkB md ops n = true) (hc : Region.chainB md ops n = true) (hn : n < ops.size) (hin : i < n) (hL : ∀ s a, L s a → ∀ j ∈ Region.ready md ops s, n ≤ j)
  (f : Nat) : ∀ (s : Array Bool) (a : Act), HeadInv md ops n s →
   (∀ j oj, ops[j]? = some oj → j ≠ i → s.getD j true = false → (∀ e ∈ oj.after, Region.binds md e = true → e.on ≠ i) → o.apart ops oj = true) →
   i ∈ Region.ready md ops s → YieldsIn P ops C o v a → hd P md ops C n L f (s.setIfInBounds i true) (a.put o.dst v) → hd P md ops C n L (f + 1) s a := by
 induction f with
 | zero =>
  intro s a inv _ hr hy H;refine ⟨(fun e => by rw [e] at hr; cases hr), fun j hj => ?_⟩;have hjn : j < n := Nat.lt_of_not_le fun h => tail_waits hs hc hn inv _ i rfl hin (mem_ready.1 hr).1 j h hj
  refine ⟨hjn, ?_⟩
  by_cases e : j = i
  ·
   subst e; exact hy.qOp hi H
  have := hL _ _ H j (ready_mono hj e); omega
 | succ f ih =>
  intro s a inv hfree hr hy H;refine ⟨(fun e => by rw [e] at hr; cases hr), fun j hj => ?_⟩;have hun := (mem_ready.1 hr).1;have hjn : j < n := Nat.lt_of_not_le fun h => tail_waits hs hc hn inv _ i rfl hin hun j h hj
  refine ⟨hjn, ?_⟩
  by_cases e : j = i
  ·
   subst e; exact hy.qOp hi H
  obtain ⟨KC, oj, Jp, hall⟩ := mem_ready.1 hj;have hno : ∀ e ∈ oj.after, Region.binds md e = true → e.on ≠ i := fun x hx hb heq => by
   have h1 := hall x hx hb;rw [heq, getD_both hun] at h1
   cases h1
  have h2 := qOp_put Jp (hfree j oj Jp e KC hno) (fun cs b => hsel i o cs b hi) (fun cs b => hsel j oj cs b Jp) hy (H.2 j (ready_mono hj e)).2;refine qOp_mono (fun a' h3 => ih (s.setIfInBounds j true) a' (inv.set hj hjn) (fun k ok hk hki hk' Qg => hfree k ok hk hki ?_ Qg) (ready_mono hr (aO e)) h3.1 ?_) h2
  ·
   by_cases hjk : j = k
   ·
    subst hjk; exact KC
   rw [bB true hjk] at hk'; exact hk'
  rw [Array.setIfInBounds_comm _ _ e]; exact h3.2
theorem VR {n g : Nat} {R : Act → Prop} (hsel : Region.noSelect ops = true) (hs : Region.sinkB md ops n = true) (hc : Region.chainB md ops n = true) (hn : n < ops.size) :
  ∀ (l : List Oper) (k : Nat) (s : Array Bool) (a : Act), (∀ j, j < l.length → l[j]? = ops[k + j]?) → k + l.length = n → HeadInv md ops n s →
  Region.lexHead md ops g l.length k s = true → wpQuiet P ops C R l a → hd P md ops C n (fun s' a' => Region.seqB md ops g n s' = true ∧ R a') l.length s a
 | [], k, s, a, _, hk, _, hB, h => by
  obtain rfl : k = n := by simpa using hk
  exact ⟨by simpa [Region.lexHead] using hB, h⟩
 | o :: l, k, s, a, hl, hk, inv, hB, h => by
  have h0 : ops[k]? = some o := by simpa using (hl 0 (by simp)).symm
  simp only [aX, Region.lexHead, aM] at hB;obtain ⟨⟨hr, hf⟩, hB'⟩ := hB;have hkn : k < n := by simp only [aX] at hk; omega
  have hr' : k ∈ Region.ready md ops s := by simpa using hr
  have hq : qOp P ops C k (wpQuiet P ops C R l) a := by unfold qOp; simp only [h0]; exact h
  obtain ⟨v, hy, hK⟩ := yieldsIn_of_qOp h0 hq;exact zJn h0 (Region.noSelect_spec hsel) hs hc hn hkn (fun s' a' h' => seqB_ready h'.1) l.length s a inv (Region.free_spec h0 hf) hr' hy
   (VR hsel hs hc hn l (k + 1) _ _ (fun j hj => by have := hl (j + 1) (by simp; omega); simpa [cN, Nat.add_comm 1 j] using this) (by simp only [aX] at hk; omega) (inv.set hr' hkn) hB' hK)
theorem tP {id : Nat} {Q : Exit → Act → World → Prop} {a : Act} {w : World} {l : List Oper} (n : Nat) (hm : P.follows .mixedOrders = true) (hB : Region.lexTailB .any l.toArray n = true) (hw : C w.drew)
  (h : wpQuiet P l.toArray C (fun a' => ∀ w', C w' → wpList P l.toArray Q (l.drop n) a' w') (l.take n) a) : (Code.region id l.toArray true).wp P Q a w := by
 simp only [Region.lexTailB, aM, aT] at hB;obtain ⟨⟨⟨⟨hsel, hn⟩, hs⟩, hc⟩, Qh⟩ := hB;have hn' : n < l.length := by simpa using hn
 have htl : (l.take n).length = n := by simp; omega
 have iz : (l.drop n).length = l.toArray.size - n := by simp
 have Qi : HeadInv .any l.toArray n (Array.replicate l.toArray.size false) :=
  ⟨by simp, fun j oj _ hl => (by rw [getD_replicate_false] at hl; cases hl), fun t _ ht => getD_in (by simpa using ht) (getD_replicate_false _ _)⟩
 have H := VR (md := .any) (g := l.toArray.size - n) hsel hs hc hn (l.take n) 0 _ a (fun j hj => by
  have hj' : j < n := by rw [htl] at hj; exact hj
  simp [hj']) (by simpa using htl) Qi (by rw [htl]; exact Qh) h
 refine wp_region_any hm ?_
 have := VQ (Q := Q) (g := l.toArray.size - n) (fun s a' w' hw' hL => by
  have := wpAny_of_seq (md := .any) (Q' := Q) (l.drop n) n s a' w' (fun j => by simp [cM]) (by rw [iz]; exact hL.1) (hL.2 w' hw')
  rwa [iz] at this) _ _ _ w.drew hw H
 rw [htl, show n + (l.toArray.size - n) = l.toArray.size by omega] at this;exact this
end
theorem tW {P : Program} {id : Nat} {Q : Exit → Act → World → Prop} {a : Act} {w : World} {l : List Oper} (n : Nat) (hm : P.follows .mixedOrders = true) (hB : Region.lexTailB .any l.toArray n = true)
  (h : wpQuiet P l.toArray (fun w' => ∃ p : dY w, w' = p.w') (fun a' => ∀ w', (∃ p : dY w, w' = p.w') → wpList P l.toArray Q (l.drop n) a' w') (l.take n) a) : (Code.region id l.toArray true).wp P Q a w :=
 tP (C := fun w' => ∃ p : dY w, w' = p.w') n hm hB ⟨⟨w.drew, ⟨rfl, rfl, rfl, ai _, fun _ _ => rfl⟩⟩, rfl⟩ h
end Go.Proofs.YtcgfilmmokmdjaaGreat
namespace Go.Proofs.YtcgfilmmokmdjaaGreat
open Go.RowKit
def xA (M : Mp) (n : Int) : Mp := if yw M = true ∧ 0 ≤ n ∧ n ≤ 1099511627776 - M.dW then ⟨M.st, M.live, M.dW + n⟩ else M
theorem tB {M : Mp} (h : fO M) (hs : ∀ i, i < 8 → (M.st i).length ≤ 10000) : Fx.Small M.live ∧ 0 ≤ M.live ∧ M.live ≤ 400000000 := by
 have h1 := tR hs;have h2 := tp (vA M);have h3 := h.lv;have : (vA M).length * 4127 ≤ 80000 * 4127 := aW _ h1;unfold Fx.Small;rw [Fx.Km];omega
theorem zq {a : Int} (h1 : -9007199254740991 ≤ a) (h2 : a ≤ 9007199254740991) : Fx.Small a := by
 unfold Fx.Small; rw [Fx.Km]; omega
theorem Nu {a b c d : Int} (ha : Fx.Small a) (hb : Fx.Small b) (hc : Fx.Small c) (hd : Fx.Small d) (hac : Fx.Small (a + c)) (GG : Fx.Small (b + d)) (t : TypeId) (W : World) :
  (binOp .add t (.complex .f64 (Fx.fb a) (Fx.fb b)) (.complex .f64 (Fx.fb c) (Fx.fb d))).run Tryz.prog W = .ok (.complex .f64 (Fx.fb (a + c)) (Fx.fb (b + d))) W :=
 run_complex_sum W .add (.inl rfl) t .f64 _ _ _ _ _ _ (by
  unfold cSumBits floatBits
  show ((FloatKind.f64.format.add _ _).bind _) = _
  rw [show FloatKind.f64.format.add (Fx.fb a) (Fx.fb c) = some (Fx.fb (a + c)) from Fx.C0 a c ha hc hac, show FloatKind.f64.format.add (Fx.fb b) (Fx.fb d) = some (Fx.fb (b + d)) from Fx.C0 b d hb hd GG]
  rfl)
theorem vT (s : Sl) (M : Mp) (n : Int) (w : World) (h : fw w s M.st) (hs : ∀ i, i < 8 → (M.st i).length ≤ 10000) :
  Calls Tryz.prog 54 #[yA s M.live M.dW, .int .i64 n] w fun e w' => (∃ s', e = .returned (yA s' (xA M n).live (xA M n).dW) ∧ eU w' w.heap.size s' (xA M n).st) ∧ Below w.heap.size w w' := by
 have HV := zh (fun s W h => vS s M W h (fun i hi => ak (hs i hi) (by decide)));have eE := zh ((eB.new w s M.live M.dW 36).below (zP (w.alloc (.cells (yN s M.live M.dW) 36)) Sl.nil 0 0 36));have nZ := zh (eB.new (w.alloc (.cells (yN s M.live M.dW) 36)) Sl.nil 0 0 36);have eD := zh (zA (zP w s M.live M.dW 36) (zP (w.alloc (.cells (yN s M.live M.dW) 36)) Sl.nil 0 0 36));rw [show (w.alloc (.cells (yN s M.live M.dW) 36)).heap.size = w.heap.size + 1 by simp] at nZ;have HC := zh (fun W h => qr s M.live M.dW M.st W h (fun i hi => ak (hs i hi) (by decide)));have Hr := zh h;have KE := zh (fun hv : yw M = true => (⟨tB ((zV M).1 hv) hs, ((zV M).1 hv).g0, ((zV M).1 hv).g1⟩ : _ ∧ _ ∧ _));have HW := zh (show xA M n = if yw M = true ∧ 0 ≤ n ∧ n ≤ 1099511627776 - M.dW then ⟨M.st, M.live, M.dW + n⟩ else M from rfl);clear h hs;generalize yw M = vb at *;generalize xA M n = WM at *;obtain ⟨f, L, G⟩ := M
 dsimp only at *
 go_enter Tryz.func54, Tryz.ntmps54
 go_wp2_with fail;refine (HC.out _ (Hr.out.below eD.out)).mono ?_; rintro e w1 ⟨⟨s1, rfl, hown1⟩, hb1⟩;have fp := zh (eE.out.below hb1);have sL := zh (nZ.out.below hb1);have eQ := zh (zA eD.out hb1);have mR := zh (hown1.mono (show w.heap.size + 2 ≤ _ by simp));obtain ⟨c0, c1, c2, c3, c4, c5, c6, c7, c8, c9⟩ := fp.out.q;have cF := fp.out.f;clear hown1 hb1 HC eE nZ eD;go_upto_region 2 with fail;change Code.wp _ _ _ _ (yC w1 w.heap.size s1 L G);obtain ⟨V, hV⟩ : ∃ V, yC w1 w.heap.size s1 L G = V := ⟨_, rfl⟩
 have Bb := zh (show eB V w.heap.size s1 L G from hV ▸ fp.out.all s1 L G);have FC := zh (show eB V (w.heap.size + 1) Sl.nil 0 0 from hV ▸ sL.out.mr (by omega) s1 L G);have mW := zh (show Below w.heap.size w V from hV ▸ zY eQ.out (ai _) s1 L G);have C7 := zh (show eU V (w.heap.size + 2) s1 f from hV ▸ mR.out.lg (by omega) s1 L G);rw [hV];clear hV c0 c1 c2 c3 c4 c5 c6 c7 c8 c9 cF fp sL eQ mR;obtain ⟨c0, c1, c2, c3, c4, c5, c6, c7, c8, c9⟩ := Bb.out.q;have cF := Bb.out.f;go_wp2_with fail;refine (HV.out s1 V C7.out.rd).mono ?_; rintro e w2 ⟨rfl, hb2⟩;have fU := zh (Bb.out.below hb2);have ix := zh (FC.out.below hb2);have eP := zh (zA mW.out hb2);have gj := zh (C7.out.keep hb2);clear hb2 c0 c1 c2 c3 c4 c5 c6 c7 c8 c9 cF Bb FC mW C7 HV;obtain ⟨c0, c1, c2, c3, c4, c5, c6, c7, c8, c9⟩ := fU.out.q;have cF := fU.out.f;obtain ⟨d0, d1, d2, d3, d4, d5, d6, d7, d8, d9⟩ := ix.out.q;have dF := ix.out.f
 by_cases hok : vb = true ∧ 0 ≤ n ∧ n ≤ 1099511627776 - G
 ·
  rw [ag hok] at HW;obtain ⟨rfl, h1, h2⟩ := hok;obtain ⟨⟨FD, Qj, Ku⟩, FE, Ct⟩ := KE.out rfl;have g1 : decide (n < 0) = false := by simp; omega
  have j1 : IntKind.i64.wrap (1099511627776 - G) = 1099511627776 - G := aH _ (by omega);have g2 : decide (1099511627776 - G < n) = false := by simp; omega
  have GH := zh (fun u : dY w2 => uk s1 L G u.w');have Jq := zh (fun W => PN s1 L G L (G + n) FD (zq (by omega) (by omega)) W);have hadd := fun W => Nu (a := L) (b := G) (c := 0) (d := n) FD (zq (by omega) (by omega)) (zq (by omega) (by omega)) (zq (by omega) (by omega)) (by rw [Int.add_zero]; exact FD) (zq (by omega) (by omega)) 168 W
  have hz : Fx.fb 0 = 0 := rfl;rw [Int.add_zero, hz] at hadd;have hfn : floatOfInt .f64 n = Fx.fb n := rfl;obtain ⟨e0, e1, e2, e3, e4, e5, e6, e7, e8, e9⟩ := fU.out.q;have eF := fU.out.f;go_wp2_with fail;have f0 := zB e0;have f1 := zB e1;have f2 := zB e2;have f3 := zB e3;have f4 := zB e4;have f5 := zB e5;have f6 := zB e6;have f7 := zB e7;have f8 := zB e8;have f9 := zB e9;refine tW 7 (by kernel_rfl) (by kernel_rfl) ?_;simp only [List.take_succ_cons, List.take_zero, List.drop_succ_cons, List.drop_zero]
  repeat (go_big_quiet_step (exact zG (GH.out _)))
  refine aC ?_;intro _ hw';obtain ⟨u, hw'⟩ := hw';subst hw';have HYu := zh (ix.out.below u.h);have Nv := zh (zA eP.out u.h);have HOu := zh (gj.out.keep u.h);generalize u.w' = w3 at *;clear c0 c1 c2 c3 c4 c5 c6 c7 c8 c9 cF d0 d1 d2 d3 d4 d5 d6 d7 d8 d9 dF e0 e1 e2 e3 e4 e5 e6 e7 e8 e9 eF f0 f1 f2 f3 f4 f5 f6 f7 f8 f9 hadd;go_wp2_with fail;refine (Jq.out _).mono ?_; rintro e w4 ⟨rfl, hb4⟩;have pQ := zh (HYu.out.below hb4);have fQ := zh (zA Nv.out hb4);have iB := zh (HOu.out.keep hb4);clear hb4;obtain ⟨d0, d1, d2, d3, d4, d5, d6, d7, d8, d9⟩ := pQ.out.q;have dF := pQ.out.f;go_wp2_with fail;change bodyPost _ _ _ _ _ (yC w4 (w.heap.size + 1) s1 L (G + n));have hby := pQ.out.all s1 L (G + n);have mC := zh ((iB.out.lg (show w.heap.size + 1 < w.heap.size + 2 by omega) s1 L (G + n)).mono (show w.heap.size ≤ w.heap.size + 2 by omega));have ek := zh (zY fQ.out (Nat.le_succ _) s1 L (G + n))
  generalize yC w4 (w.heap.size + 1) s1 L (G + n) = V2 at *;exact aw (v := yA s1 L (G + n)) (by simp [results, Tryz.results54, go_sem, hby.q]) rfl ⟨⟨s1, by rw [HW.out], by rw [HW.out]; exact mC.out⟩, ek.out⟩
 rw [ah hok] at HW
 cases vb
 ·
  clear hok;go_wp2_with fail;change bodyPost _ _ _ _ _ (yC w2 (w.heap.size + 1) s1 L G);have hby := ix.out.all s1 L G;have mC := zh ((gj.out.lg (show w.heap.size + 1 < w.heap.size + 2 by omega) s1 L G).mono (show w.heap.size ≤ w.heap.size + 2 by omega));have ek := zh (zY eP.out (Nat.le_succ _) s1 L G);generalize yC w2 (w.heap.size + 1) s1 L G = V2 at *;exact aw (v := yA s1 L G) (by simp [results, Tryz.results54, go_sem, hby.q]) rfl ⟨⟨s1, by rw [HW.out], by rw [HW.out]; exact mC.out⟩, ek.out⟩
 by_cases h1 : n < 0
 ·
  have g1 : decide (n < 0) = true := by simpa using h1
  clear hok;go_wp2_with fail;change bodyPost _ _ _ _ _ (yC w2 (w.heap.size + 1) s1 L G);have hby := ix.out.all s1 L G;have mC := zh ((gj.out.lg (show w.heap.size + 1 < w.heap.size + 2 by omega) s1 L G).mono (show w.heap.size ≤ w.heap.size + 2 by omega));have ek := zh (zY eP.out (Nat.le_succ _) s1 L G);generalize yC w2 (w.heap.size + 1) s1 L G = V2 at *;exact aw (v := yA s1 L G) (by simp [results, Tryz.results54, go_sem, hby.q]) rfl ⟨⟨s1, by rw [HW.out], by rw [HW.out]; exact mC.out⟩, ek.out⟩
 have g1 : decide (n < 0) = false := by simpa using h1
 obtain ⟨_, FE, Ct⟩ := KE.out rfl;have j1 : IntKind.i64.wrap (1099511627776 - G) = 1099511627776 - G := aH _ (by omega);have g2 : decide (1099511627776 - G < n) = true := by
  have : ¬ n ≤ 1099511627776 - G := fun e => hok ⟨rfl, by omega, e⟩
  simp; omega
 clear hok;go_wp2_with fail;change bodyPost _ _ _ _ _ (yC w2 (w.heap.size + 1) s1 L G);have hby := ix.out.all s1 L G;have mC := zh ((gj.out.lg (show w.heap.size + 1 < w.heap.size + 2 by omega) s1 L G).mono (show w.heap.size ≤ w.heap.size + 2 by omega));have ek := zh (zY eP.out (Nat.le_succ _) s1 L G);generalize yC w2 (w.heap.size + 1) s1 L G = V2 at *;exact aw (v := yA s1 L G) (by simp [results, Tryz.results54, go_sem, hby.q]) rfl ⟨⟨s1, by rw [HW.out], by rw [HW.out]; exact mC.out⟩, ek.out⟩
theorem zC7 {w : World} {hb g : Nat} {ca cb : Array Value} (hne : hb ≠ g) (ha : w.heap[hb]? = some (.cells ca 49 (0, 0))) (hb' : w.heap[g]? = some (.cells cb 49 (0, 0))) (hn : cb.size ≠ 0) (off : Nat) :
  ∀ la c lb d, (callFunc 179 #[.slice (some ⟨hb, 0, none⟩) la c, .slice (some ⟨g, off, none⟩) lb d]).run Tryz.prog w = .ok (.value (.bool false)) w := fun la c lb d => by
 rw [run_callFunc_extern Tryz.func179 (by kernel_rfl) (by kernel_rfl) (by kernel_rfl) (e := Extern.SlicesOverlaps.overlaps #[33, 33] #[4]) (by kernel_rfl),
  Lib.run_overlaps_apart w 33 4 49 Tryz.underlying33 4 (wD yE).2 ⟨hb, 0, none⟩ ⟨g, off, none⟩ la c lb d hne 49 49 ca.size cb.size (by simp [World.shape?, ha]) (by simp [World.shape?, hb']) hn (by simp [World.frozen?, ha]) (by simp [World.frozen?, ha])]
 rfl
theorem qh (g n cap k : Nat) (hk : k + 1 ≤ n) (hc : k + 1 < cap) :
  ∀ W kl, (Instr.slice 33 (.slice (some ⟨g, 0, none⟩) n cap) (some (.int kl ((k : Int) + 1))) none none).run Tryz.prog W = .ok (.slice (some ⟨g, (k + 1) * 4, none⟩) (n - (k + 1)) (cap - (k + 1))) W := fun W kl => by
 have := tw (P := Tryz.prog) yE g n cap (k + 1) hk hc W kl;rw [cU] at this;exact this
theorem Qk {w : World} {B g n cap : Nat} {xs : List Value} (h : w.ownsRow B 49 4 (.slice (some ⟨g, 0, none⟩) n cap) n xs) (k : Nat) (hk : k ≤ n) (hc : k < cap) :
  Rd w 4 (.slice (some ⟨g, k * 4, none⟩) (n - k) (cap - k)) (n - k) (xs.drop (k * 4)) := by
 have hx := h.1;have := qI (zr h) k n hk (ai _);have hne : cap ≠ k := by omega
 unfold sliced at this;rw [ah hne] at this;simp only [dB, yP, aJ] at this;rw [aR (by rw [aK, hx, Nat.sub_mul]; omega)] at this;exact this
theorem Ql {w : World} {B g n cap : Nat} {xs : List Value} (h : w.ownsRow B 49 4 (.slice (some ⟨g, 0, none⟩) n cap) n xs) : ∃ cur, w.heap[g]? = some (.cells cur 49 (0, 0)) ∧ cur.size = cap * 4 ∧ n ≤ cap := by
 rcases h.2 with ⟨h', _⟩ | ⟨g', c2, cur, h', hb, hg, hnc, hcm, hcs, jd⟩
 ·
  cases h'
 injection h' with h' _ h'';injection h' with h';injection h' with h' _;subst h' h'';exact ⟨cur, hg, hcs, hnc⟩
theorem zKy (v : Value) (l : List It) (i : Nat) (x : It) (hb B : Nat) (w : World) (hown : fg w B v l) (hB : B ≤ w.heap.size) (hi : i ≤ l.length) (hs : l.length ≤ 1000000)
  (hh : w.heap[hb]? = some (.cells (gZ x).toArray 49 (0, 0))) (hne : ∀ k, v.ownBlock = some k → k ≠ hb) :
  Calls Tryz.prog 142 #[v, .int .i64 (i : Int), .slice (some ⟨hb, 0, none⟩) 1 1] w fun e w' => ∃ v', e = .returned v' ∧ fg w' B v' (l.take i ++ x :: l.drop i) ∧ Below B w w' := by
 have rB : Rd w 4 (.slice (some ⟨hb, 0, none⟩) 1 1) 1 (gZ x) := by
  refine ⟨rfl, some ⟨hb, 0, none⟩, 1, rfl, ai _, by unfold maxLen; omega, fun h => (by cases h), fun _ => ⟨hb, 0, rfl, fun j u hj => ?_⟩⟩;have : w.cell? ⟨hb, 0 + j, none⟩ = (gZ x).toArray[0 + j]? := by simp [World.cell?, hh]
  rw [this, aJ, List.getElem?_toArray]; exact hj
 obtain ⟨oa, oc, rfl, ho1, ho2, oT⟩ := zO hown;have hm := BM ho1 ho2;have gP := zh (show w.ownsRow B 49 4 _ l.length (zU l) from hown);have Hv := zh rB;have Hh := zh hh;have hl := yF l;have rC : zU (l.take i ++ x :: l.drop i) = (zU l).take (i * 4) ++ gZ x ++ (zU l).drop (i * 4) := by
  rw [zu, uO, xl, uR, bp]
 have HF := zh rC;have Ay := zh (zn l);have Az := zh (show ∀ u ∈ gZ x, u.oneCell' = true by rw [← xM]; exact zn [x]);have pR : (gZ x).length = 4 := rfl;generalize hn : l.length = n at *;have HN := zh hn;generalize zU l = xs at *;generalize gZ x = c at *;have HL := zh hl;have rU := zh pR;clear hown rB hh hn rC hl pR oT
 by_cases hin : i = n
 ·
  subst hin;obtain ⟨x1, y1, g1, _, _⟩ := vR (P := Tryz.prog) yE (zr gP.out) i (ai _);clear hne
  go_enter Tryz.func142, Tryz.ntmps142
  go_wp2_with (at_builtin; go_must (refine zd rfl (.tmp 23) (.tmp 24) 33 rfl yE B rfl gP.out rfl Hv.out Az.out (by unfold maxLen; omega) (by omega) hB ?_); intro v4 w4 eZ gK hv4; clear hv4);go_ret;refine ⟨_, rfl, yI eZ ?_, zM (aj _ _) gP.out hB gK⟩;rw [HF.out, aR (by rw [HL.out]; omega), bQ (by rw [HL.out]; omega), bW]
 obtain ⟨g, rfl⟩ : ∃ g, oa = some ⟨g, 0, none⟩ := by
  rcases gP.out.2 with ⟨e, h0⟩ | ⟨g, _, _, e, _⟩
  ·
   omega
  injection e with e; exact ⟨g, e⟩
 have KF : g ≠ hb := hne g rfl;have KH : ((i : Int) == (n : Int)) = false := beq_eq_false_iff_ne.2 (by omega);have g1 := tw (P := Tryz.prog) yE g n oc i hi (by omega);clear hne
 by_cases hr : oc < n + 1
 ·
  obtain ⟨w2, c2, ha, ew, hb2, hc2⟩ := zHP gP.out i (n + 1 - i) hi (by omega) (by omega) (by omega);have ha : ∀ ty, (Builtin.append_ #[33, 3] ty #[.slice (some ⟨g, 0, none⟩) i oc, .int .i64 ((n : Int) + 1 - (i : Int))]).run Tryz.prog w = .ok (.slice (some ⟨w.heap.size, 0, none⟩) (n + 1) c2) w2 := fun ty => by
   have := ha ty;rw [show ((n + 1 - i : Nat) : Int) = (n : Int) + 1 - (i : Int) by omega, show i + (n + 1 - i) = n + 1 by omega] at this;exact this
  rw [show i + (n + 1 - i) = n + 1 by omega] at ew;obtain ⟨_, _, _, GI⟩ := Ql ew;have C8 := yq (P := Tryz.prog) yE (a := some ⟨g, 0, none⟩) (n := n) (cap := oc) (fun x hx => ⟨g, 0, by injection hx with hx; exact hx.symm⟩) i (by omega);have g2 := tw (P := Tryz.prog) yE w.heap.size (n + 1) c2 i (by omega) (by omega);obtain ⟨w3, GK, ei, eW⟩ := kN (P := Tryz.prog) (sT := 33) yE ew (Hv.out.below hb2) i (n + 1 - i) (c2 - i) 1 (by simp [Nat.min_def]; omega) (by decide) (by decide) (by omega) (fun u hu => Az.out u (bN hu));have hb3 : Below w.heap.size w w3 := hb2.grown eW hb2.size (by intro r hr; injection hr with hr; omega);have g3 := qh w.heap.size (n + 1) c2 i (by omega) (by omega)
  obtain ⟨w4, GM, eZ, gK⟩ := kN (P := Tryz.prog) (sT := 33) yE ei.drew ((Qk gP.out i hi (by omega)).below hb3.drew) (i + 1) (n - i) (c2 - (i + 1)) (n - i) (by simp) (by omega) (by decide) (by omega) (fun u hu => Ay.out u (dC (bN hu)));have hb4 : Below w.heap.size w w4 := hb3.drew.grown gK hb3.drew.size (by intro r hr; injection hr with hr; omega);have hgo : ((oc : Int) < (n : Int) + 1) := by omega
  have hw2 := zh (gP.out.1);have AB := zh eZ;have fQ := zh hb4;clear hb2 hb3 hb4 ew ei eZ eW gK GI
  go_enter Tryz.func142, Tryz.ntmps142
  go_wp2_with (at_builtin; go_must (refine Lib.wpList_append_run _ rfl (.tmp 34) (.tmp 39) 33 3 rfl _ _ rfl rfl _ _ (ha _) ?_));have j1 : IntKind.i64.wrap ((i : Int) + 1) = (i : Int) + 1 := aH _ (by omega);have j2 : (0 : Int) ≤ (i : Int) + 1 := by omega
  have j3 : (i : Int) + 1 ≤ (n : Int) + 1 := by omega
  have j4 : ((i : Int) + 1).toNat = i + 1 := by omega
  have j5 : (i : Int) ≤ (n : Int) := by omega
  go_region_held3 (fun _ => True) (trivial) (fail)
  go_wp2_with fail;go_ret;refine ⟨_, rfl, yI (AB.out.mono hB) ?_, fQ.out.mono hB⟩;rw [HF.out];have hz : (zU (List.replicate (n + 1 - i) fJ)).length = (n + 1 - i) * 4 := by rw [yF, dy]
  have hc1 : c.take (1 * 4) = c := aR (by rw [rU.out]; omega);have hx1 : (xs.drop (i * 4)).take ((n - i) * 4) = xs.drop (i * 4) := aR (by rw [aK, HL.out]; omega);rw [hc1, hx1];exact zH6 hi HL.out hz rU.out
 obtain ⟨ys, hy, hown1⟩ := Vv gP.out 1 (by omega);have C8 := yq (P := Tryz.prog) yE (a := some ⟨g, 0, none⟩) (n := n) (cap := oc) (fun x hx => ⟨g, 0, by injection hx with hx; exact hx.symm⟩) (n + 1) (by omega);simp only [cU] at C8;rw [show ((1 : Nat) : Int) = 1 from rfl] at C8;have g2 := tw (P := Tryz.prog) yE g (n + 1) oc i (by omega) (by omega);have g3 := qh g (n + 1) oc i (by omega) (by omega);obtain ⟨cur, hg, hcs, _⟩ := Ql hown1;have sH := zC7 (aO KF) Hh.out hg (by omega) ((i + 1) * 4)
 obtain ⟨w3, GK, ei, eW⟩ := kN (P := Tryz.prog) (sT := 33) yE hown1.drew (Qk hown1.drew i (by omega) (by omega)) (i + 1) (n - i) (oc - (i + 1)) (n - i) (by simp [Nat.min_def]; omega) (by omega) (by decide) (by omega) (fun u hu => Ay.out u (by
  rw [List.drop_append_of_le_length (by rw [HL.out]; omega), cE (by rw [aK, HL.out]; omega)] at hu
  exact dC hu))
 have hb3 : Below B w w3 := ((aj B w).drew).grown eW hB (by intro r hr; injection hr with hr; have := (hown1.lt g rfl).1; omega);have hv3 := Rd.grown (Hv.out.drew) eW (fun y hy => by injection hy with hy; subst hy; intro e; injection e with e; exact KF e.symm);obtain ⟨w4, GM, eZ, gK⟩ := kN (P := Tryz.prog) (sT := 33) yE ei hv3 i (n + 1 - i) (oc - i) 1 (by simp [Nat.min_def]; omega) (by decide) (by decide) (by omega) (fun u hu => Az.out u (bN hu));have hb4 : Below B w w4 := hb3.grown gK (ak hB hb3.size) (by intro r hr; injection hr with hr; have := (hown1.lt g rfl).1; omega);have AB := zh eZ;have fQ := zh hb4;have HY := zh hy;have hgo : ¬ ((oc : Int) < (n : Int) + 1) := by omega
 have j1 : IntKind.i64.wrap ((i : Int) + 1) = (i : Int) + 1 := aH _ (by omega);have j2 : (0 : Int) ≤ (i : Int) + 1 := by omega
 have j3 : (i : Int) + 1 ≤ (n : Int) + 1 := by omega
 have j4 : ((i : Int) + 1).toNat = i + 1 := by omega
 have j5 : (i : Int) ≤ (n : Int) := by omega
 clear hb3 hb4 hown1 ei eZ eW gK hv3 hy hcs hg
 go_enter Tryz.func142, Tryz.ntmps142
 go_wp2_with (simp only [sH]);have j6 : (i : Int) ≤ (n : Int) + 1 := by omega
 go_region_held3 (fun _ => True) (trivial) (fail)
 go_wp2_with fail;go_ret;refine ⟨_, rfl, yI AB.out ?_, fQ.out⟩;rw [HF.out];have hc1 : c.take (1 * 4) = c := aR (by rw [rU.out]; omega);rw [hc1];exact zHY hi HL.out (by rw [HY.out])
theorem zAf {P : Program} {w : World} {ops : Array Oper} {o : Oper} {a : Act} {K : Act → World → Prop} {Q : Exit → Act → World → Prop} {E : Prop} (hgd : o.guard = none) (s x : Operand) (t tn : TypeId)
  (ho : o.op = .call { callee := .builtin .append, args := #[s, x], argTypes := #[t, tn] }) (vs vx : Value) (hs : a.eval s = vs) (hx : a.eval x = vx)
  (v' : Value) (w' : World) (hr : (Builtin.append_ #[t, tn] o.type #[vs, vx]).run P w = .ok v' w') (h : K (a.put o.dst v') w') :
  if Region.wanted o (yielded ops a.tmps) = true then Oper.wp P o a w K Q else E := by
 have hw : Region.wanted o (yielded ops a.tmps) = true := by simp [Region.wanted, hgd]
 rw [ag hw];exact Lib.wp_append_run w s x t tn ho vs vx hs hx v' w' hr h
theorem zFZ {w : World} {B g n cap : Nat} {xs : List Value} (h : w.ownsRow B 49 4 (.slice (some ⟨g, 0, none⟩) n cap) n xs) (k : Nat) (hk : k + 1 ≤ n) :
  ∃ p c', (∀ W kl, (Instr.slice 33 (.slice (some ⟨g, 0, none⟩) n cap) (some (.int kl ((k : Int) + 1))) none none).run Tryz.prog W = .ok (.slice (some p) (n - (k + 1)) c') W) ∧
   Rd w 4 (.slice (some p) (n - (k + 1)) c') (n - (k + 1)) (xs.drop ((k + 1) * 4)) := by
 obtain ⟨_, _, _, hnc⟩ := Ql h
 by_cases hq : k + 1 < cap
 ·
  exact ⟨_, _, qh g n cap k hk hq, Qk h (k + 1) hk hq⟩
 obtain rfl : cap = k + 1 := by omega
 obtain rfl : n = k + 1 := by omega
 refine ⟨⟨g, 0, none⟩, 0, fun W kl => ?_, ?_⟩
 ·
  obtain ⟨h1, h2⟩ := wD (P := Tryz.prog) yE;rw [run_slice_l W 33 (some ⟨g, 0, none⟩) (k + 1) (k + 1) h1 kl ((k : Int) + 1) (by omega) (by omega), h2];have : ((k : Int) + 1).toNat = k + 1 := by omega
  simp [Result.andThen, sliced, this]
 have hx := h.1;rw [bQ (by omega), Nat.sub_self];exact ⟨rfl, some ⟨g, 0, none⟩, 0, rfl, ai _, au _, fun h => (by cases h), fun h => absurd h (by simp)⟩
theorem zFO (g p cap : Nat) (hc : p + 1 ≤ cap) :
  ∀ W kl kh, (Instr.slice 33 (.slice (some ⟨g, 0, none⟩) p cap) (some (.int kl (p : Int))) (some (.int kh ((p : Int) + 1))) none).run Tryz.prog W = .ok (.slice (some ⟨g, p * 4, none⟩) 1 (cap - p)) W := fun W kl kh => by
 obtain ⟨h1, h2⟩ := wD (P := Tryz.prog) yE;rw [run_slice_lh W 33 (some ⟨g, 0, none⟩) p cap h1 kl kh (p : Int) ((p : Int) + 1) (by omega) (by omega) (by omega), h2];have h3 : ((p : Int) + 1).toNat = p + 1 := by omega
 have h4 : cap ≠ p := by omega
 simp [Result.andThen, sliced, h3, h4, yP]
theorem zEd (a : Option Addr) (n cap i : Nat) (hi : i + 1 ≤ n) (hn : n ≤ cap) :
  ∃ u, ∀ W kl kh km, (Instr.slice 33 (.slice a n cap) (some (.int kl (i : Int))) (some (.int kh ((i : Int) + 1))) (some (.int km (n : Int)))).run Tryz.prog W = .ok u W := by
 obtain ⟨h1, h2⟩ := wD (P := Tryz.prog) yE;refine ⟨sliced a (i : Int).toNat ((i : Int) + 1).toNat (n : Int).toNat 4, fun W kl kh km => ?_⟩;rw [run_slice_lhm W 33 a n cap h1 kl kh km (i : Int) ((i : Int) + 1) (n : Int) (by omega) (by omega) (by omega) (by omega), h2]
 rfl
theorem zJ9 (v : Value) (l : List It) (i B : Nat) (w : World) (hown : fg w B v l) (hB : B ≤ w.heap.size) (hi : i < l.length) (hs : l.length ≤ 1000000) :
  Calls Tryz.prog 137 #[v, .int .i64 (i : Int), .int .i64 ((i : Int) + 1)] w fun e w' => ∃ v', e = .returned v' ∧ fg w' B v' (l.take i ++ l.drop (i + 1)) ∧ Below B w w' := by
 obtain ⟨oa, oc, rfl, ho1, ho2, oT⟩ := zO hown;have rC : zU (l.take i ++ l.drop (i + 1)) = (zU l).take (i * 4) ++ (zU l).drop ((i + 1) * 4) := by
  rw [zu, xl, uR]
 have HF := zh rC;have Ay := zh (zn l);have hl := yF l;obtain ⟨p, hp⟩ : ∃ p, l.length = p + 1 := ⟨l.length - 1, by omega⟩
 have hown' : w.ownsRow B 49 4 _ l.length (zU l) := hown;clear hown;have hown := hown';clear hown';have Bc : (l.take i ++ l.drop (i + 1)).length = p := by rw [aA, ay, aK]; omega
 rw [hp] at hown ho1 hl hs hi ⊢;generalize zU l = xs at *;obtain ⟨g, rfl⟩ : ∃ g, oa = some ⟨g, 0, none⟩ := by
  rcases hown.2 with ⟨e, h0⟩ | ⟨g, _, _, e, _⟩
  ·
   omega
  injection e with e; exact ⟨g, e⟩
 have C8 := yq (P := Tryz.prog) yE (a := some ⟨g, 0, none⟩) (n := p + 1) (cap := oc) (fun x hx => ⟨g, 0, by injection hx with hx; exact hx.symm⟩) i (by omega);obtain ⟨q, qc, g1, gB⟩ := zFZ hown i hi;obtain ⟨w3, hap, ei, eW⟩ := zIH (vL hown i (by omega)).drew gB.drew (fun u hu => Ay.out u (dC hu)) (by omega);have e1 : i + (p + 1 - (i + 1)) = p := by omega
 rw [e1] at hap ei;have hgB := (hown.lt g rfl).1;have hb3 : Below B w w3 := ((aj B w).drew).grown eW hB (by intro r hr; injection hr with hr; omega);obtain ⟨ys, hy, eZ⟩ := Vv ei 1 (by omega);obtain ⟨w5, hcl, fF, gQ⟩ := zHq eZ p (by omega);have e2 : p + 1 - p = 1 := by omega
 rw [e2] at hcl;have hb5 : Below B w w5 := hb3.grown gQ (ak hB hb3.size) (by intro r hr; injection hr with hr; omega);obtain ⟨u3, g3⟩ := zEd (some ⟨g, 0, none⟩) (p + 1) oc i hi ho1;simp only [cU] at g3;rw [show ((1 : Nat) : Int) = 1 from rfl] at g3;have g2 := zFO g p oc (by omega);have hl3 := ei.1;have jC := vL fF p (by omega);rw [dN (by rw [ay, aA, hl3]; omega), dh, Nat.min_self, cE hl3] at jC;have HR := zh jC;have gp := zh hb5;have CZ := zh Bc;have KH : ((i : Int) == (i : Int) + 1) = false := beq_eq_false_iff_ne.2 (by omega);have j1 : IntKind.i64.wrap ((i : Int) + 1) = (i : Int) + 1 := aH _ (by omega);have hm : oc ≤ 9223372036854775807 := by unfold maxLen at ho2; omega
 clear hown ei eZ fF jC eW gQ hb3 hb5 gB hl hl3 Bc rC oT hp e1 e2 hy
 go_enter Tryz.func137, Tryz.ntmps137
 go_wp2_with fail;have j2 : (0 : Int) ≤ (i : Int) + 1 := by omega
 have j3 : (i : Int) + 1 ≤ (p : Int) + 1 := by omega
 have j4 : ((i : Int) + 1).toNat = i + 1 := by omega
 have j5 : (i : Int) ≤ (p : Int) + 1 := by omega
 have j6 : (i : Int) ≤ (oc : Int) := by omega
 go_region_held3 (fun _ => True) (trivial) (refine zAf rfl (.tmp 22) (.tmp 25) 33 33 rfl _ _ (by simp [Act.eval]) (by simp [Act.eval]) _ _ (hap _) ?_)
 go_wp2_with fail;go_ret;exact ⟨_, rfl, yI HR.out HF.out.symm, gp.out⟩
theorem zK7 (v : Value) (l : List It) (x : It) (w : World) (h : iQ w v l) (hk : wR l) (hs : l.length ≤ 100000) :
  Calls Tryz.prog 101 #[v, jB x] w fun e w' => ∃ v', e = .returned v' ∧ fg w' w.heap.size v' (ins (fC l) x) ∧ Below w.heap.size w w' := by
 have HS := zh (fun w h => hk v w h);have hlen := yU l;have HA := zh (wi l);have HF := zh (fun v w h => qe v (fC l) x.key w h (by omega));have D6 := zh (fun v i hb B w h1 h2 h3 => zKy v (fC l) i x hb B w h1 h2 h3 (by omega));have jL := zh (fun r (h : Place (fC l) x.key r) => zLb h (wi l));have Hr := zh h;obtain ⟨a, cap, rfl, _, _⟩ := h.shape;generalize fC l = s at *;generalize ins s x = res at *;obtain ⟨W0, hW0⟩ : ∃ W0, W0 = w.alloc (.cells #[.int .u64 x.key, .int .u32 x.ck, .int .i64 x.off, .int .i64 x.size] 49) := ⟨_, rfl⟩
 have hb0 : Below w.heap.size w W0 := by rw [hW0]; exact (aj _ _).alloc (ai _) _
 have eD := zh hb0;have d0 : W0.cell? ⟨w.heap.size, 0, none⟩ = some (.int .u64 x.key) := by rw [hW0]; simp
 have d1 : W0.cell? ⟨w.heap.size, 1, none⟩ = some (.int .u32 x.ck) := by rw [hW0]; simp
 have d2 : W0.cell? ⟨w.heap.size, 2, none⟩ = some (.int .i64 x.off) := by rw [hW0]; simp
 have d3 : W0.cell? ⟨w.heap.size, 3, none⟩ = some (.int .i64 x.size) := by rw [hW0]; simp
 have oU := zh hW0;have hs0 : w.heap.size ≤ W0.heap.size := hb0.size;clear h hk hW0 hb0
 go_enter Tryz.func101, Tryz.ntmps101
 go_wp2_with fail;rw [← oU.out];refine (HS.out _ (Hr.out.below eD.out)).mono ?_; rintro e w1 ⟨v1, rfl, hown1, hb1⟩;have HO := zh hown1;have HB := zh hb1;have e0 := Below.keeps hb1 _ _ d0;have e1 := Below.keeps hb1 _ _ d1;have e2 := Below.keeps hb1 _ _ d2;have e3 := Below.keeps hb1 _ _ d3;clear hown1 hb1 d0 d1 d2 d3;go_wp2_with fail;refine (HF.out _ _ HO.out.rd).mono ?_; rintro e w2 ⟨⟨r, hp, rfl⟩, hb2⟩;have eP := zh (HB.out.trans (hb2.mono HB.out.size));have gj := zh (zH HO.out hb2);have HP := zh hp;have d0 := Below.keeps hb2 _ _ e0;have d1 := Below.keeps hb2 _ _ e1;have d2 := Below.keeps hb2 _ _ e2;have d3 := Below.keeps hb2 _ _ e3;clear hb2 hp e0 e1 e2 e3;have nM := zh (jL.out r HP.out);obtain ⟨oa, oc, rfl, ho1, ho2, oT⟩ := zO gj.out;have hs2 : W0.heap.size ≤ w2.heap.size := eP.out.size
 by_cases hy : r < s.length ∧ (dX s r).key = x.key
 ·
  have HR := zh (nM.out.trans (ag hy));rw [aF hy];have hrl := hy.1;obtain ⟨g, rfl⟩ : ∃ g, oa = some ⟨g, 0, none⟩ := by
   rcases gj.out.2 with ⟨e, h0⟩ | ⟨g, _, _, e, _⟩
   ·
    omega
   injection e with e; exact ⟨g, e⟩
  have hgB := (gj.out.lt g rfl).1;obtain ⟨_, _, e, c0, c1, c2, c3⟩ := (yj (zr gj.out)).at hrl;injection e with e; injection e with e1 e2; subst e1 e2;simp only [aJ] at c0 c1 c2 c3;have f0 := gj.out.frozenAt (r * 4);have f1 := gj.out.frozenAt (r * 4 + 1);have f2 := gj.out.frozenAt (r * 4 + 2);have f3 := gj.out.frozenAt (r * 4 + 3);have jI := zh (Pk gj.out r hrl x);clear hy;generalize dX s r = y at *;generalize hn : s.length = n at *;go_wp2_with fail;go_ret;refine ⟨_, rfl, ?_, eD.out.trans (((((eP.out.setCell hgB _).setCell hgB _).setCell hgB _).setCell hgB _).mono hs0)⟩;rw [HR.out];exact (yI jI.out rfl).mono hs0
 have HR := zh (nM.out.trans (ah hy));rw [aD hy];clear hy;have hne : ∀ k, (Value.slice oa s.length oc).ownBlock = some k → k ≠ w2.heap.size := fun k hk => by have := (gj.out.lt k hk).2; omega
 have HC := zh (D6.out (.slice oa s.length oc) r w2.heap.size W0.heap.size (w2.alloc (.cells (gZ x).toArray 49)) (gj.out.alloc _) (by simp; omega) HP.out.1 (dg w2 _) hne);have HBA := zh (eP.out.alloc hs2 (.cells (gZ x).toArray 49));clear hne;go_wp2_with fail;refine HC.out.mono ?_; rintro e w3 ⟨v3, rfl, ei, hb3⟩;have lB := zh ei;have fV := zh (HBA.out.trans hb3);clear ei hb3;go_wp2_with fail;go_ret;refine ⟨_, rfl, ?_, eD.out.trans (fV.out.mono hs0)⟩;rw [HR.out];exact lB.out.mono hs0
theorem zIj (v : Value) (l : List It) (key : Int) (w : World) (h : iQ w v l) (hk : wR l) (hs : l.length ≤ 100000) :
  Calls Tryz.prog 98 #[v, .int .u64 key] w fun e w' => ∃ v', e = .returned v' ∧ fg w' w.heap.size v' (gl (fC l) key) ∧ Below w.heap.size w w' := by
 have HS := zh (hk v w h);have hlen := yU l;have HF := zh (fun v w h => qe v (fC l) key w h (by omega));have HDe := zh (fun v i B w h1 h2 h3 => zJ9 v (fC l) i B w h1 h2 h3 (by omega));have jL := zh (fun r (h : Place (fC l) key r) => zG1 h (wi l));obtain ⟨a, cap, rfl, _, _⟩ := h.shape;generalize fC l = s at *;generalize gl s key = res at *;clear h hk
 go_enter Tryz.func98, Tryz.ntmps98
 go_wp2_with fail;refine HS.out.mono ?_; rintro e w1 ⟨v1, rfl, hown1, hb1⟩;have HO := zh hown1;have HB := zh hb1;clear hown1 hb1;go_wp2_with fail;refine (HF.out _ _ HO.out.rd).mono ?_; rintro e w2 ⟨⟨r, hp, rfl⟩, hb2⟩;have eP := zh (zA HB.out hb2);have gj := zh (zH HO.out hb2);have HP := zh hp;clear hb2 hp;have nM := zh (jL.out r HP.out);have hs2 : w.heap.size ≤ w2.heap.size := eP.out.size
 by_cases hy : r < s.length ∧ (dX s r).key = key
 ·
  have HR := zh (nM.out.trans (ag hy));rw [aF hy];have hrl := hy.1;have HC := zh (HDe.out v1 r w.heap.size w2 gj.out hs2 hrl);clear hy;go_wp2_with fail;refine HC.out.mono ?_; rintro e w3 ⟨v3, rfl, ei, hb3⟩;have lB := zh ei;have fV := zh (eP.out.trans hb3);clear ei hb3;go_wp2_with fail;go_ret;refine ⟨_, rfl, ?_, fV.out⟩;rw [HR.out];exact lB.out
 have HR := zh (nM.out.trans (ah hy));rw [aD hy];clear hy;go_wp2_with fail;go_ret;refine ⟨_, rfl, ?_, eP.out⟩;rw [HR.out];exact gj.out
def xN (y : It) : Nat := eM y.size.toNat
def yJ (M : Mp) (key : Int) : Mp :=
 match ze M key with
 | none => M
 | some y => if M.dW + (xN y : Int) ≤ 1099511627776 then ⟨fun i => if i = fl key then gl (M.st i) key else M.st i, M.live - (xN y : Int), M.dW + (xN y : Int)⟩ else M
theorem td (y : It) (hy : 0 ≤ y.size) (w : World) : Calls Tryz.prog 97 #[jB y] w fun e w' => e = .returned (.int .i64 (xN y : Int)) ∧ Below w.heap.size w w' :=
 (Vg y w).mono fun e w' ⟨⟨n, he, _, h⟩, hb⟩ => ⟨by rw [he, h hy]; rfl, hb⟩
theorem VT {a b : Int} (ha : Fx.Small a) (hb : Fx.Small b) : (FloatKind.f64.format.order (Fx.fb a) (Fx.fb b) == some Ordering.gt) = decide (b < a) := by
 have h : FloatKind.f64.format.order (Fx.fb a) (Fx.fb b) = some (compare a b) := Fx.C1 a b ha hb;rw [h]
 show (some (compareOfLessAndEq a b) == some Ordering.gt) = _
 unfold compareOfLessAndEq
 by_cases h1 : a < b
 ·
  rw [ag h1, aD (by omega)]; rfl
 rw [ah h1]
 by_cases h2 : a = b
 ·
  rw [ag h2, aD (by omega)]; rfl
 rw [ah h2, aF (by omega)]; rfl
theorem xY {M : Mp} {key : Int} {y : It} (h : ze M key = some y) : yw M = true ∧ y ∈ M.st (fl key) ∧ y.key = key ∧ 0 ≤ y.size := by
 unfold ze at h
 split at h
 ·
  rename_i hv;obtain ⟨h1, h2⟩ := wV h;exact ⟨hv, h1, h2, kO (((zV M).1 hv).ok _ (wS key)) y h1⟩
 cases h
theorem Nw (y : It) : xN y ≤ 4127 := xx _
theorem VU (s : Sl) (M : Mp) (key : Int) (w : World) (h : fw w s M.st) (hs : ∀ i, i < 8 → (M.st i).length ≤ 10000) :
  Calls Tryz.prog 55 #[yA s M.live M.dW, .int .u64 key] w fun e w' => (∃ s', e = .returned (yA s' (yJ M key).live (yJ M key).dW) ∧ eU w' w.heap.size s' (yJ M key).st) ∧ Below w.heap.size w w' := by
 have HG := zh (fun s W h => VP s M key W h hs);have eE := zh ((eB.new w s M.live M.dW 36).below (zP (w.alloc (.cells (yN s M.live M.dW) 36)) Sl.nil 0 0 36));have nZ := zh (eB.new (w.alloc (.cells (yN s M.live M.dW) 36)) Sl.nil 0 0 36);have eD := zh (zA (zP w s M.live M.dW 36) (zP (w.alloc (.cells (yN s M.live M.dW) 36)) Sl.nil 0 0 36));rw [show (w.alloc (.cells (yN s M.live M.dW) 36)).heap.size = w.heap.size + 1 by simp] at nZ;have HC := zh (fun W h => qr s M.live M.dW M.st W h (fun i hi => ak (hs i hi) (by decide)));have Hr := zh h;have jJ := wS key;have HS := zh (fun W => ut key W);have Cu := zh (fun y (hy : ze M key = some y) => (⟨tB ((zV M).1 (xY hy).1) hs, ((zV M).1 (xY hy).1).g0, ((zV M).1 (xY hy).1).g1, (xY hy).2.2.2, yK (vt (((zV M).1 (xY hy).1).ok _ jJ))⟩ : _ ∧ _ ∧ _ ∧ _ ∧ _))
 have Cv := zh (fun v W h => zIj v (M.st (fl key)) key W h (wG _ (ak (hs _ jJ) (by decide))) (ak (hs _ jJ) (by decide)));have oU := zh (show ze M key = none → yJ M key = M from fun h => by unfold yJ; rw [h]);have AE := zh (show ∀ y, ze M key = some y → M.dW + (xN y : Int) ≤ 1099511627776 → yJ M key = ⟨fun i => if i = fl key then gl (M.st i) key else M.st i, M.live - (xN y : Int), M.dW + (xN y : Int)⟩ from fun y h h2 => by unfold yJ; rw [h]; exact ag h2);have AH := zh (show ∀ y, ze M key = some y → ¬ M.dW + (xN y : Int) ≤ 1099511627776 → yJ M key = M from fun y h h2 => by unfold yJ; rw [h]; exact ah h2);clear h hs;generalize ze M key = o at *;generalize yJ M key = WM at *;generalize fl key = k at *;obtain ⟨f, L, G⟩ := M;dsimp only at *
 go_enter Tryz.func55, Tryz.ntmps55
 go_wp2_with fail;refine (HC.out _ (Hr.out.below eD.out)).mono ?_; rintro e w1 ⟨⟨s1, rfl, hown1⟩, hb1⟩;have fp := zh (eE.out.below hb1);have sL := zh (nZ.out.below hb1);have eQ := zh (zA eD.out hb1);have mR := zh (hown1.mono (show w.heap.size + 2 ≤ _ by simp));obtain ⟨c0, c1, c2, c3, c4, c5, c6, c7, c8, c9⟩ := fp.out.q;have cF := fp.out.f;clear hown1 hb1 HC eE nZ eD;go_upto_region 2 with fail;change Code.wp _ _ _ _ (yC w1 w.heap.size s1 L G);obtain ⟨V, hV⟩ : ∃ V, yC w1 w.heap.size s1 L G = V := ⟨_, rfl⟩
 have Bb := zh (show eB V w.heap.size s1 L G from hV ▸ fp.out.all s1 L G);have FC := zh (show eB V (w.heap.size + 1) Sl.nil 0 0 from hV ▸ sL.out.mr (by omega) s1 L G);have mW := zh (show Below w.heap.size w V from hV ▸ zY eQ.out (ai _) s1 L G);have C7 := zh (show eU V (w.heap.size + 2) s1 f from hV ▸ mR.out.lg (by omega) s1 L G);rw [hV];clear hV c0 c1 c2 c3 c4 c5 c6 c7 c8 c9 cF fp sL eQ mR;obtain ⟨c0, c1, c2, c3, c4, c5, c6, c7, c8, c9⟩ := Bb.out.q;have cF := Bb.out.f;go_wp2_with fail;refine (HS.out _).mono ?_; rintro e w2 ⟨rfl, rfl⟩;go_wp2_with fail;refine (HG.out s1 V C7.out.rd).mono ?_; rintro e w2 ⟨rfl, hb2⟩;have fU := zh ((Bb.out.below hb2).below (z8 w2 (o.getD fJ)));have ix := zh ((FC.out.below hb2).below (z8 w2 (o.getD fJ)));have eP := zh (zA (zA mW.out hb2) (z8 w2 (o.getD fJ)));have gj := zh ((C7.out.keep hb2).keep (z8 w2 (o.getD fJ)));have nN := zh (gC.new w2 (o.getD fJ))
 clear hb2 c0 c1 c2 c3 c4 c5 c6 c7 c8 c9 cF Bb FC mW C7 HG HS
 cases o with
 | none =>
  have HW := zh (oU.out rfl);go_upto_region 5 with fail;obtain ⟨V3, GN⟩ : ∃ V3, w2.alloc (xF fJ) = V3 := ⟨_, rfl⟩
  rw [show w2.alloc (xF ((none : Option It).getD fJ)) = V3 from GN] at fU ix eP gj;rw [GN];clear GN nN;obtain ⟨c0, c1, c2, c3, c4, c5, c6, c7, c8, c9⟩ := fU.out.q;have cF := fU.out.f;obtain ⟨d0, d1, d2, d3, d4, d5, d6, d7, d8, d9⟩ := ix.out.q;have dF := ix.out.f;go_wp2_with fail;change bodyPost _ _ _ _ _ (yC V3 (w.heap.size + 1) s1 L G);have hby := ix.out.all s1 L G;have mC := zh ((gj.out.lg (show w.heap.size + 1 < w.heap.size + 2 by omega) s1 L G).mono (show w.heap.size ≤ w.heap.size + 2 by omega));have ek := zh (zY eP.out (show w.heap.size ≤ w.heap.size + 1 by omega) s1 L G);generalize yC V3 (w.heap.size + 1) s1 L G = V9 at *;exact aw (v := yA s1 L G) (by simp [results, Tryz.results55, go_sem, hby.q]) rfl ⟨⟨_, by rw [HW.out], by rw [HW.out]; exact mC.out⟩, ek.out⟩
 | some y =>
  obtain ⟨⟨FD, Qj, Ku⟩, FE, Ct, hy0, hsk⟩ := Cu.out y rfl;have FF := zh hy0;have Cq := zh hsk;have GQ := zh (AE.out y rfl);have GR := zh (AH.out y rfl);clear Cu oU AE AH hy0 hsk;go_upto_region 6 with fail;obtain ⟨V3, GN⟩ : ∃ V3, w2.alloc (xF y) = V3 := ⟨_, rfl⟩
  rw [show w2.alloc (xF ((some y).getD fJ)) = V3 from GN] at fU ix eP gj nN;rw [show (some y).getD fJ = y from rfl] at nN;rw [GN];clear GN;have hlen := Nw y;have GH := zh (fun u : dY V3 => uk s1 L G u.w');have iN := zh (fun u : dY V3 => td y FF.out u.w');have VW := zh (fun u : dY V3 => Vh (xN y) (by omega) u.w');generalize xN y = n at *;have hadd := fun W => Nu (a := L) (b := G) (c := -(n : Int)) (d := (n : Int)) FD (zq (by omega) (by omega)) (zq (by omega) (by omega)) (zq (by omega) (by omega)) (zq (by omega) (by omega)) (zq (by omega) (by omega)) 168 W
  have hgt := VT (a := G + (n : Int)) (b := 1099511627776) (zq (by omega) (by omega)) (zq (by omega) (by omega));rw [show Fx.fb 1099511627776 = 4787326403894837248 from rfl] at hgt;have Jq := zh (fun s W => PN s L G (L + -(n : Int)) (G + (n : Int)) (zq (by omega) (by omega)) (zq (by omega) (by omega)) W);have e : L + -(n : Int) = L - (n : Int) := by omega
  rw [e] at hadd Jq;clear e;obtain ⟨c0, c1, c2, c3, c4, c5, c6, c7, c8, c9⟩ := fU.out.q;have cF := fU.out.f;obtain ⟨i0, i1, i2, i3⟩ := nN.out.t.q;have iF := nN.out.f;have f0 := zB c0;have f1 := zB c1;have f2 := zB c2;have f3 := zB c3;have f4 := zB c4;have f5 := zB c5;have f6 := zB c6;have f7 := zB c7;have f8 := zB c8;have f9 := zB c9;have k0 := zB i0;have k1 := zB i1;have k2 := zB i2;have k3 := zB i3;clear c0 c1 c2 c3 c4 c5 c6 c7 c8 c9 cF i0 i1 i2 i3 iF;refine zC (by kernel_rfl) (by kernel_rfl) ?_
  repeat (go_big_quiet_step ((first | exact zG (GH.out _) | exact zG (iN.out _) | exact zG (VW.out _))))
  refine aC ?_;intro _ hw';obtain ⟨u, hw'⟩ := hw';subst hw';have gO := zh (fU.out.below u.h);have mA := zh (ix.out.below u.h);have fV := zh (zA eP.out u.h);have lB := zh (gj.out.keep u.h);generalize u.w' = w3 at *;clear f0 f1 f2 f3 f4 f5 f6 f7 f8 f9 k0 k1 k2 k3 GH iN VW hadd fU ix eP gj nN
  by_cases hgo : G + (n : Int) ≤ 1099511627776
  ·
   have HW := zh (GQ.out hgo);rw [aD (show ¬ (1099511627776 < G + (n : Int)) by omega)] at hgt;have Ba : s1.v k = .slice (s1.a k) (s1.n k) (s1.c k) := rfl;have ck := gO.out.c k jJ;have GU := zh (Cv.out _ w3 (lB.out k jJ).rd);rw [Cq.out] at GU;rw [Ba] at ck GU;clear Ba;go_wp2_with fail;refine GU.out.mono ?_; rintro e w4 ⟨v4, rfl, eZ, hb4⟩;have ia := zh (gO.out.below hb4);have pQ := zh (mA.out.below hb4);have fQ := zh (zA fV.out hb4);have iB := zh (lB.out.keep hb4);have VX := zh (eZ.mono (show w.heap.size + 2 ≤ w3.heap.size from mA.out.lt));obtain ⟨va, vc, hv4, _⟩ := zO eZ;subst hv4;clear eZ hb4 GU ck gO mA fV lB;have ck := ia.out.c k jJ;have cf := ia.out.f k;have Ba : s1.v k = .slice (s1.a k) (s1.n k) (s1.c k) := rfl;rw [Ba] at ck;generalize (gl (f k) key).length = dn at *;go_upto_region 10 with fail
   obtain ⟨V5, Cw⟩ : ∃ V5, w4.setCell ⟨w.heap.size, k, none⟩ (.slice va dn vc) = V5 := ⟨_, rfl⟩
   have fk := zh (show eB V5 w.heap.size (s1.set k va dn vc) L G from Cw ▸ ia.out.Ew jJ va dn vc);have pU := zh (show eB V5 (w.heap.size + 1) Sl.nil 0 0 from Cw ▸ pQ.out.ea (p := ⟨w.heap.size, k, none⟩) (show w.heap.size ≠ w.heap.size + 1 by omega) _);have gp := zh (show Below w.heap.size w V5 from Cw ▸ fQ.out.setCell (p := ⟨w.heap.size, k, none⟩) (ai _) _);have jE := zh (show eU V5 (w.heap.size + 2) (s1.set k va dn vc) (fun i => if i = k then gl (f k) key else f i) from Cw ▸ eU.set (fun i hi => yB (iB.out i hi) (p := ⟨w.heap.size, k, none⟩) (show w.heap.size < w.heap.size + 2 by omega) _) (show fg _ _ _ (gl (f k) key) from yI (yB VX.out (p := ⟨w.heap.size, k, none⟩) (show w.heap.size < w.heap.size + 2 by omega) _) rfl));rw [Cw];clear Cw ck cf Ba ia pQ fQ iB VX;have hfe : (fun i => if i = k then gl (f k) key else f i) = (fun i => if i = k then gl (f i) key else f i) := funext fun i => by
    by_cases e : i = k
    ·
     rw [ag e, ag e, e]
    rw [ah e, ah e]
   rw [hfe] at jE;clear hfe;generalize s1.set k va dn vc = s2 at *;obtain ⟨c0, c1, c2, c3, c4, c5, c6, c7, c8, c9⟩ := fk.out.q;have cF := fk.out.f;go_wp2_with fail;refine (Jq.out s2 V5).mono ?_; rintro e w6 ⟨rfl, l6⟩;have ik := zh (fk.out.below l6);have ED := zh (pU.out.below l6);have jG := zh (zA gp.out l6);have mo := zh (jE.out.keep l6);clear l6 c0 c1 c2 c3 c4 c5 c6 c7 c8 c9 cF;generalize L - (n : Int) = L2 at *;generalize G + (n : Int) = G2 at *;obtain ⟨c0, c1, c2, c3, c4, c5, c6, c7, c8, c9⟩ := ik.out.q;have cF := ik.out.f;obtain ⟨d0, d1, d2, d3, d4, d5, d6, d7, d8, d9⟩ := ED.out.q;have dF := ED.out.f;go_wp2_with fail;change bodyPost _ _ _ _ _ (yC w6 (w.heap.size + 1) s2 L2 G2);have hby := ED.out.all s2 L2 G2;have mC := zh ((mo.out.lg (show w.heap.size + 1 < w.heap.size + 2 by omega) s2 L2 G2).mono (show w.heap.size ≤ w.heap.size + 2 by omega))
   have ek := zh (zY jG.out (show w.heap.size ≤ w.heap.size + 1 by omega) s2 L2 G2);generalize yC w6 (w.heap.size + 1) s2 L2 G2 = V9 at *;exact aw (v := yA s2 L2 G2) (by simp [results, Tryz.results55, go_sem, hby.q]) rfl ⟨⟨_, by rw [HW.out], by rw [HW.out]; exact mC.out⟩, ek.out⟩
  have HW := zh (GR.out (by omega));rw [aF (show 1099511627776 < G + (n : Int) by omega)] at hgt;obtain ⟨c0, c1, c2, c3, c4, c5, c6, c7, c8, c9⟩ := gO.out.q;have cF := gO.out.f;obtain ⟨d0, d1, d2, d3, d4, d5, d6, d7, d8, d9⟩ := mA.out.q;have dF := mA.out.f;go_wp2_with fail;change bodyPost _ _ _ _ _ (yC w3 (w.heap.size + 1) s1 L G);have hby := mA.out.all s1 L G;have mC := zh ((lB.out.lg (show w.heap.size + 1 < w.heap.size + 2 by omega) s1 L G).mono (show w.heap.size ≤ w.heap.size + 2 by omega));have ek := zh (zY fV.out (show w.heap.size ≤ w.heap.size + 1 by omega) s1 L G);generalize yC w3 (w.heap.size + 1) s1 L G = V9 at *;exact aw (v := yA s1 L G) (by simp [results, Tryz.results55, go_sem, hby.q]) rfl ⟨⟨_, by rw [HW.out], by rw [HW.out]; exact mC.out⟩, ek.out⟩
end Go.Proofs.YtcgfilmmokmdjaaGreat
