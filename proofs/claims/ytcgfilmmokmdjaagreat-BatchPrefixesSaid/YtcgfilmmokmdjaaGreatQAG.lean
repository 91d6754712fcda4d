/- A part of the walk. -/
import Derived.StillTailTactics
import Derived.Deep.Quiet
import Derived.BigQuiet
import Derived.Test.YtcgfilmmokmdjaaGreatBase
import Derived.Test.YtcgfilmmokmdjaaGreatQAF
import Derived.Test.YtcgfilmmokmdjaaGreatQAE
import Derived.Laws.Externs
import Derived.Test.YtcgfilmmokmdjaaGreatQAB
set_option linter.all false
set_option maxRecDepth 100000
set_option maxHeartbeats 32000000
namespace Go.Proofs.YtcgfilmmokmdjaaGreat
open Go
section
variable {P : Program} {ops : Array Oper} {md : Region.Mode} {C : World → Prop}
def hd (P : Program) (md : Region.Mode) (ops : Array Oper) (C : World → Prop) (n : Nat) (L : Array Bool → Act → Prop) : Nat → Array Bool → Act → Prop
 | 0,s,a => L s a
 | f + 1,s,a => Region.ready md ops s ≠ [] ∧ ∀ i ∈ Region.ready md ops s,i < n ∧ qOp P ops C i (hd P md ops C n L f (s.setIfInBounds i true)) a
theorem zIm {n g : Nat} {L : Array Bool → Act → Prop} {Q : Exit → Act → World → Prop} (hL : ∀ s a w,C w → L s a → wpAny P md ops Q g s a w) :
  ∀ (f : Nat) (s : Array Bool) (a : Act) (w : World),C w → hd P md ops C n L f s a → wpAny P md ops Q (f + g) s a w
 | 0,s,a,w,hw,h => by rw [aJ]; exact hL _ _ _ hw h
 | f + 1,s,a,w,hw,h => by
  rw [show f + 1 + g = (f + g) + 1 by omega];exact ⟨fun e => absurd e h.1,fun i hi => wpOp_of_qOp hw (fun a' w' hw' h' => zIm hL f _ a' w' hw' h') (h.2 i hi).2⟩
theorem zKQ {n i : Nat} {o : Oper} {v : Value} {L : Array Bool → Act → Prop} (hi : ops[i]? = some o) (hsel : ∀ (j : Nat) (o : Oper) cs b,ops[j]? = some o → o.op ≠ .select cs b)
  (hs : Region.sinkB md ops n = true) (hc : Region.chainB md ops n = true) (hn : n < ops.size) (hin : i < n) (hL : ∀ s a,L s a → ∀ j ∈ Region.ready md ops s,n ≤ j)
  (f : Nat) : ∀ (s : Array Bool) (a : Act),HeadInv md ops n s →
   (∀ j oj,ops[j]? = some oj → j ≠ i → s.getD j true = false → (∀ e ∈ oj.after,Region.binds md e = true → e.on ≠ i) → o.apart ops oj = true) →
   i ∈ Region.ready md ops s → YieldsIn P ops C o v a → hd P md ops C n L f (s.setIfInBounds i true) (a.put o.dst v) → hd P md ops C n L (f + 1) s a:=by
 induction f with
 | zero =>
  intro s a inv _ hr hy H;refine ⟨(fun e => by rw [e] at hr; cases hr),fun j hj => ?_⟩;have hjn : j < n:=Nat.lt_of_not_le fun h => tail_waits hs hc hn inv _ i rfl hin (mem_ready.1 hr).1 j h hj
  refine ⟨hjn,?_⟩
  by_cases e : j = i
  ·
   subst e; exact hy.qOp hi H
  have:=hL _ _ H j (ready_mono hj e); omega
 | succ f ih =>
  intro s a inv hfree hr hy H;refine ⟨(fun e => by rw [e] at hr; cases hr),fun j hj => ?_⟩;have hun:=(mem_ready.1 hr).1;have hjn : j < n:=Nat.lt_of_not_le fun h => tail_waits hs hc hn inv _ i rfl hin hun j h hj
  refine ⟨hjn,?_⟩
  by_cases e : j = i
  ·
   subst e; exact hy.qOp hi H
  obtain ⟨QM,oj,Pu,hall⟩:=mem_ready.1 hj;have hno : ∀ e ∈ oj.after,Region.binds md e = true → e.on ≠ i:=fun x hx hb heq => by
   have h1:=hall x hx hb;rw [heq,getD_both hun] at h1
   cases h1
  have h2:=qOp_put Pu (hfree j oj Pu e QM hno) (fun cs b => hsel i o cs b hi) (fun cs b => hsel j oj cs b Pu) hy (H.2 j (ready_mono hj e)).2;refine qOp_mono (fun a' h3 => ih (s.setIfInBounds j true) a' (inv.set hj hjn) (fun k ok hk hki hk' WE => hfree k ok hk hki ?_ WE) (ready_mono hr (aR e)) h3.1 ?_) h2
  ·
   by_cases hjk : j = k
   ·
    subst hjk; exact QM
   rw [bH true hjk] at hk'; exact hk'
  rw [Array.setIfInBounds_comm _ _ e]; exact h3.2
theorem zGl {n g : Nat} {R : Act → Prop} (hsel : Region.noSelect ops = true) (hs : Region.sinkB md ops n = true) (hc : Region.chainB md ops n = true) (hn : n < ops.size) :
  ∀ (l : List Oper) (k : Nat) (s : Array Bool) (a : Act),(∀ j,j < l.length → l[j]? = ops[k + j]?) → k + l.length = n → HeadInv md ops n s →
  Region.lexHead md ops g l.length k s = true → wpQuiet P ops C R l a → hd P md ops C n (fun s' a' => Region.seqB md ops g n s' = true ∧ R a') l.length s a
 | [],k,s,a,_,hk,_,hB,h => by
  obtain rfl : k = n:=by simpa using hk
  exact ⟨by simpa [Region.lexHead] using hB,h⟩
 | o :: l,k,s,a,hl,hk,inv,hB,h => by
  have h0 : ops[k]? = some o:=by simpa using (hl 0 (by simp)).symm
  simp only [aW,Region.lexHead,aO] at hB;obtain ⟨⟨hr,hf⟩,hB'⟩:=hB;have hkn : k < n:=by simp only [aW] at hk; omega
  have hr' : k ∈ Region.ready md ops s:=by simpa using hr
  have hq : qOp P ops C k (wpQuiet P ops C R l) a:=by unfold qOp; simp only [h0]; exact h
  obtain ⟨v,hy,hK⟩:=yieldsIn_of_qOp h0 hq;exact zKQ h0 (Region.noSelect_spec hsel) hs hc hn hkn (fun s' a' h' => seqB_ready h'.1) l.length s a inv (Region.free_spec h0 hf) hr' hy
   (zGl hsel hs hc hn l (k + 1) _ _ (fun j hj => by have:=hl (j + 1) (by simp; omega); simpa [cM,Nat.add_comm 1 j] using this) (by simp only [aW] at hk; omega) (inv.set hr' hkn) hB' hK)
theorem qB {id : Nat} {Q : Exit → Act → World → Prop} {a : Act} {w : World} {l : List Oper} (n : Nat) (hm : P.follows .mixedOrders = true) (hB : Region.lexTailB .any l.toArray n = true) (hw : C w.drew)
  (h : wpQuiet P l.toArray C (fun a' => ∀ w',C w' → wpList P l.toArray Q (l.drop n) a' w') (l.take n) a) : (Code.region id l.toArray true).wp P Q a w:=by
 simp only [Region.lexTailB,aO,aS] at hB;obtain ⟨⟨⟨⟨hsel,hn⟩,hs⟩,hc⟩,WG⟩:=hB;have hn' : n < l.length:=by simpa using hn
 have htl : (l.take n).length = n:=by simp; omega
 have iy : (l.drop n).length = l.toArray.size - n:=by simp
 have WH : HeadInv .any l.toArray n (Array.replicate l.toArray.size false):=
  ⟨by simp,fun j oj _ hl => (by rw [getD_replicate_false] at hl; cases hl),fun t _ ht => getD_in (by simpa using ht) (getD_replicate_false _ _)⟩
 have H:=zGl (md:=.any) (g:=l.toArray.size - n) hsel hs hc hn (l.take n) 0 _ a (fun j hj => by
  have hj' : j < n:=by rw [htl] at hj; exact hj
  simp [hj']) (by simpa using htl) WH (by rw [htl]; exact WG) h
 refine wp_region_any hm ?_
 have:=zIm (Q:=Q) (g:=l.toArray.size - n) (fun s a' w' hw' hL => by
  have:=wpAny_of_seq (md:=.any) (Q':=Q) (l.drop n) n s a' w' (fun j => by simp [cL]) (by rw [iy]; exact hL.1) (hL.2 w' hw')
  rwa [iy] at this) _ _ _ w.drew hw H
 rw [htl,show n + (l.toArray.size - n) = l.toArray.size by omega] at this;exact this
end
theorem qI {P : Program} {id : Nat} {Q : Exit → Act → World → Prop} {a : Act} {w : World} {l : List Oper} (n : Nat) (hm : P.follows .mixedOrders = true) (hB : Region.lexTailB .any l.toArray n = true)
  (h : wpQuiet P l.toArray (fun w' => ∃ p : ei w,w' = p.w') (fun a' => ∀ w',(∃ p : ei w,w' = p.w') → wpList P l.toArray Q (l.drop n) a' w') (l.take n) a) : (Code.region id l.toArray true).wp P Q a w:=
 qB (C:=fun w' => ∃ p : ei w,w' = p.w') n hm hB ⟨⟨w.drew,⟨rfl,rfl,rfl,ai _,fun _ _ => rfl⟩⟩,rfl⟩ h
end Go.Proofs.YtcgfilmmokmdjaaGreat
namespace Go.Proofs.YtcgfilmmokmdjaaGreat
open Go.RowKit
def xE (M : Mp) (n : Int) : Mp:=if xA M = true ∧ 0 ≤ n ∧ n ≤ 1099511627776 - M.dZ then ⟨M.st,M.live,M.dZ + n⟩ else M
theorem tZ {M : Mp} (h : fN M) (hs : ∀ i,i < 8 → (M.st i).length ≤ 10000) : Fx.Small M.live ∧ 0 ≤ M.live ∧ M.live ≤ 400000000:=by
 have h1:=qD hs;have h2:=qP (vS M);have h3:=h.lv;have : (vS M).length * 4127 ≤ 80000 * 4127:=aV _ h1;unfold Fx.Small;rw [Fx.QA];omega
theorem zr {a : Int} (h1 : -9007199254740991 ≤ a) (h2 : a ≤ 9007199254740991) : Fx.Small a:=by
 unfold Fx.Small; rw [Fx.QA]; omega
theorem TK {a b c d : Int} (ha : Fx.Small a) (hb : Fx.Small b) (hc : Fx.Small c) (hd : Fx.Small d) (hac : Fx.Small (a + c)) (Ns : Fx.Small (b + d)) (t : TypeId) (W : World) :
  (binOp .add t (.complex .f64 (Fx.fb a) (Fx.fb b)) (.complex .f64 (Fx.fb c) (Fx.fb d))).run Tryz.prog W = .ok (.complex .f64 (Fx.fb (a + c)) (Fx.fb (b + d))) W:=
 run_complex_sum W .add (.inl rfl) t .f64 _ _ _ _ _ _ (by
  unfold cSumBits floatBits
  show ((FloatKind.f64.format.add _ _).bind _) = _
  rw [show FloatKind.f64.format.add (Fx.fb a) (Fx.fb c) = some (Fx.fb (a + c)) from Fx.Jn a c ha hc hac,show FloatKind.f64.format.add (Fx.fb b) (Fx.fb d) = some (Fx.fb (b + d)) from Fx.Jn b d hb hd Ns]
  rfl)
theorem uA (s : Sl) (M : Mp) (n : Int) (w : World) (h : fq w s M.st) (hs : ∀ i,i < 8 → (M.st i).length ≤ 10000) :
  Calls Tryz.prog 54 #[yK s M.live M.dZ,.int .i64 n] w fun e w' => (∃ s',e = .returned (yK s' (xE M n).live (xE M n).dZ) ∧ eZ w' w.heap.size s' (xE M n).st) ∧ Below w.heap.size w w':=by
 have HV:=zh (fun s W h => vz s M W h (fun i hi => ak (hs i hi) (by decide)));have eG:=zh ((eM.new w s M.live M.dZ 36).below (za (w.alloc (.cells (yj s M.live M.dZ) 36)) Sl.nil 0 0 36));have Cf:=zh (eM.new (w.alloc (.cells (yj s M.live M.dZ) 36)) Sl.nil 0 0 36);have eQ:=zh (zA (za w s M.live M.dZ 36) (za (w.alloc (.cells (yj s M.live M.dZ) 36)) Sl.nil 0 0 36));rw [show (w.alloc (.cells (yj s M.live M.dZ) 36)).heap.size = w.heap.size + 1 by simp] at Cf;have HC:=zh (fun W h => kR s M.live M.dZ M.st W h (fun i hi => ak (hs i hi) (by decide)));have Hr:=zh h;have QO:=zh (fun hv : xA M = true => (⟨tZ ((zO M).1 hv) hs,((zO M).1 hv).g0,((zO M).1 hv).g1⟩ : _ ∧ _ ∧ _));have HW:=zh (show xE M n = if xA M = true ∧ 0 ≤ n ∧ n ≤ 1099511627776 - M.dZ then ⟨M.st,M.live,M.dZ + n⟩ else M from rfl);clear h hs;generalize xA M = vb at *;generalize xE M n = WM at *;obtain ⟨f,L,G⟩:=M
 dsimp only at *
 go_enter Tryz.func54,Tryz.ntmps54
 go_wp2_with fail;refine (HC.out _ (Hr.out.below eQ.out)).mono ?_; rintro e w1 ⟨⟨s1,rfl,hown1⟩,hb1⟩;have fC:=zh (eG.out.below hb1);have Ef:=zh (Cf.out.below hb1);have eW:=zh (zA eQ.out hb1);have lZ:=zh (hown1.mono (show w.heap.size + 2 ≤ _ by simp));obtain ⟨c0,c1,c2,c3,c4,c5,c6,c7,c8,c9⟩:=fC.out.q;have cF:=fC.out.f;clear hown1 hb1 HC eG Cf eQ;go_upto_region 2 with fail;change Code.wp _ _ _ _ (yH w1 w.heap.size s1 L G);obtain ⟨V,hV⟩ : ∃ V,yH w1 w.heap.size s1 L G = V:=⟨_,rfl⟩
 have Fh:=zh (show eM V w.heap.size s1 L G from hV ▸ fC.out.all s1 L G);have Mj:=zh (show eM V (w.heap.size + 1) Sl.nil 0 0 from hV ▸ Ef.out.mD (by omega) s1 L G);have jO:=zh (show Below w.heap.size w V from hV ▸ zY eW.out (ai _) s1 L G);have Js:=zh (show eZ V (w.heap.size + 2) s1 f from hV ▸ lZ.out.j_ (by omega) s1 L G);rw [hV];clear hV c0 c1 c2 c3 c4 c5 c6 c7 c8 c9 cF fC Ef eW lZ;obtain ⟨c0,c1,c2,c3,c4,c5,c6,c7,c8,c9⟩:=Fh.out.q;have cF:=Fh.out.f;go_wp2_with fail;refine (HV.out s1 V Js.out.rd).mono ?_; rintro e w2 ⟨rfl,hb2⟩;have gm:=zh (Fh.out.below hb2);have iq:=zh (Mj.out.below hb2);have eV:=zh (zA jO.out hb2);have gu:=zh (Js.out.keep hb2);clear hb2 c0 c1 c2 c3 c4 c5 c6 c7 c8 c9 cF Fh Mj jO Js HV;obtain ⟨c0,c1,c2,c3,c4,c5,c6,c7,c8,c9⟩:=gm.out.q;have cF:=gm.out.f;obtain ⟨d0,d1,d2,d3,d4,d5,d6,d7,d8,d9⟩:=iq.out.q;have dF:=iq.out.f
 by_cases hok : vb = true ∧ 0 ≤ n ∧ n ≤ 1099511627776 - G
 ·
  rw [ag hok] at HW;obtain ⟨rfl,h1,h2⟩:=hok;obtain ⟨⟨Ml,WI,Md⟩,Mm,K8⟩:=QO.out rfl;have g1 : decide (n < 0) = false:=by simp; omega
  have j1 : IntKind.i64.wrap (1099511627776 - G) = 1099511627776 - G:=aF _ (by omega);have g2 : decide (1099511627776 - G < n) = false:=by simp; omega
  have Nt:=zh (fun u : ei w2 => tJ s1 L G u.w');have Pv:=zh (fun W => Wb s1 L G L (G + n) Ml (zr (by omega) (by omega)) W);have hadd:=fun W => TK (a:=L) (b:=G) (c:=0) (d:=n) Ml (zr (by omega) (by omega)) (zr (by omega) (by omega)) (zr (by omega) (by omega)) (by rw [Int.add_zero]; exact Ml) (zr (by omega) (by omega)) 168 W
  have hz : Fx.fb 0 = 0:=rfl;rw [Int.add_zero,hz] at hadd;have hfn : floatOfInt .f64 n = Fx.fb n:=rfl;obtain ⟨e0,e1,e2,e3,e4,e5,e6,e7,e8,e9⟩:=gm.out.q;have eF:=gm.out.f;go_wp2_with fail;have f0:=zB e0;have f1:=zB e1;have f2:=zB e2;have f3:=zB e3;have f4:=zB e4;have f5:=zB e5;have f6:=zB e6;have f7:=zB e7;have f8:=zB e8;have f9:=zB e9;refine qI 7 (by kernel_rfl) (by kernel_rfl) ?_;simp only [List.take_succ_cons,List.take_zero,List.drop_succ_cons,List.drop_zero]
  repeat (go_big_quiet_step (exact zE (Nt.out _)))
  refine aA ?_;intro _ hw';obtain ⟨u,hw'⟩:=hw';subst hw';have HYu:=zh (iq.out.below u.h);have HBu:=zh (zA eV.out u.h);have HOu:=zh (gu.out.keep u.h);generalize u.w' = w3 at *;clear c0 c1 c2 c3 c4 c5 c6 c7 c8 c9 cF d0 d1 d2 d3 d4 d5 d6 d7 d8 d9 dF e0 e1 e2 e3 e4 e5 e6 e7 e8 e9 eF f0 f1 f2 f3 f4 f5 f6 f7 f8 f9 hadd;go_wp2_with fail;refine (Pv.out _).mono ?_; rintro e w4 ⟨rfl,hb4⟩;have C6:=zh (HYu.out.below hb4);have fZ:=zh (zA HBu.out hb4);have jx:=zh (HOu.out.keep hb4);clear hb4;obtain ⟨d0,d1,d2,d3,d4,d5,d6,d7,d8,d9⟩:=C6.out.q;have dF:=C6.out.f;go_wp2_with fail;change bodyPost _ _ _ _ _ (yH w4 (w.heap.size + 1) s1 L (G + n));have hby:=C6.out.all s1 L (G + n);have lT:=zh ((jx.out.j_ (show w.heap.size + 1 < w.heap.size + 2 by omega) s1 L (G + n)).mono (show w.heap.size ≤ w.heap.size + 2 by omega));have ey:=zh (zY fZ.out (Nat.le_succ _) s1 L (G + n))
  generalize yH w4 (w.heap.size + 1) s1 L (G + n) = V2 at *;exact au (v:=yK s1 L (G + n)) (by simp [results,Tryz.results54,go_sem,hby.q]) rfl ⟨⟨s1,by rw [HW.out],by rw [HW.out]; exact lT.out⟩,ey.out⟩
 rw [ah hok] at HW
 cases vb
 ·
  clear hok;go_wp2_with fail;change bodyPost _ _ _ _ _ (yH w2 (w.heap.size + 1) s1 L G);have hby:=iq.out.all s1 L G;have lT:=zh ((gu.out.j_ (show w.heap.size + 1 < w.heap.size + 2 by omega) s1 L G).mono (show w.heap.size ≤ w.heap.size + 2 by omega));have ey:=zh (zY eV.out (Nat.le_succ _) s1 L G);generalize yH w2 (w.heap.size + 1) s1 L G = V2 at *;exact au (v:=yK s1 L G) (by simp [results,Tryz.results54,go_sem,hby.q]) rfl ⟨⟨s1,by rw [HW.out],by rw [HW.out]; exact lT.out⟩,ey.out⟩
 by_cases h1 : n < 0
 ·
  have g1 : decide (n < 0) = true:=by simpa using h1
  clear hok;go_wp2_with fail;change bodyPost _ _ _ _ _ (yH w2 (w.heap.size + 1) s1 L G);have hby:=iq.out.all s1 L G;have lT:=zh ((gu.out.j_ (show w.heap.size + 1 < w.heap.size + 2 by omega) s1 L G).mono (show w.heap.size ≤ w.heap.size + 2 by omega));have ey:=zh (zY eV.out (Nat.le_succ _) s1 L G);generalize yH w2 (w.heap.size + 1) s1 L G = V2 at *;exact au (v:=yK s1 L G) (by simp [results,Tryz.results54,go_sem,hby.q]) rfl ⟨⟨s1,by rw [HW.out],by rw [HW.out]; exact lT.out⟩,ey.out⟩
 have g1 : decide (n < 0) = false:=by simpa using h1
 obtain ⟨_,Mm,K8⟩:=QO.out rfl;have j1 : IntKind.i64.wrap (1099511627776 - G) = 1099511627776 - G:=aF _ (by omega);have g2 : decide (1099511627776 - G < n) = true:=by
  have : ¬ n ≤ 1099511627776 - G:=fun e => hok ⟨rfl,by omega,e⟩
  simp; omega
 clear hok;go_wp2_with fail;change bodyPost _ _ _ _ _ (yH w2 (w.heap.size + 1) s1 L G);have hby:=iq.out.all s1 L G;have lT:=zh ((gu.out.j_ (show w.heap.size + 1 < w.heap.size + 2 by omega) s1 L G).mono (show w.heap.size ≤ w.heap.size + 2 by omega));have ey:=zh (zY eV.out (Nat.le_succ _) s1 L G);generalize yH w2 (w.heap.size + 1) s1 L G = V2 at *;exact au (v:=yK s1 L G) (by simp [results,Tryz.results54,go_sem,hby.q]) rfl ⟨⟨s1,by rw [HW.out],by rw [HW.out]; exact lT.out⟩,ey.out⟩
theorem zDh {w : World} {hb g : Nat} {ca cb : Array Value} (hne : hb ≠ g) (ha : w.heap[hb]? = some (.cells ca 49 (0,0))) (hb' : w.heap[g]? = some (.cells cb 49 (0,0))) (hn : cb.size ≠ 0) (off : Nat) :
  ∀ la c lb d,(callFunc 179 #[.slice (some ⟨hb,0,none⟩) la c,.slice (some ⟨g,off,none⟩) lb d]).run Tryz.prog w = .ok (.value (.bool false)) w:=fun la c lb d => by
 rw [run_callFunc_extern Tryz.func179 (by kernel_rfl) (by kernel_rfl) (by kernel_rfl) (e:=Extern.SlicesOverlaps.overlaps #[33,33] #[4]) (by kernel_rfl),
  Lib.run_overlaps_apart w 33 4 49 Tryz.underlying33 4 (wm yI).2 ⟨hb,0,none⟩ ⟨g,off,none⟩ la c lb d hne 49 49 ca.size cb.size (by simp [World.shape?,ha]) (by simp [World.shape?,hb']) hn (by simp [World.frozen?,ha]) (by simp [World.frozen?,ha])]
 rfl
theorem kK (g n cap k : Nat) (hk : k + 1 ≤ n) (hc : k + 1 < cap) :
  ∀ W kl,(Instr.slice 33 (.slice (some ⟨g,0,none⟩) n cap) (some (.int kl ((k : Int) + 1))) none none).run Tryz.prog W = .ok (.slice (some ⟨g,(k + 1) * 4,none⟩) (n - (k + 1)) (cap - (k + 1))) W:=fun W kl => by
 have:=qT (P:=Tryz.prog) yI g n cap (k + 1) hk hc W kl;rw [cH] at this;exact this
theorem WJ {w : World} {B g n cap : Nat} {xs : List Value} (h : w.ownsRow B 49 4 (.slice (some ⟨g,0,none⟩) n cap) n xs) (k : Nat) (hk : k ≤ n) (hc : k < cap) :
  Rd w 4 (.slice (some ⟨g,k * 4,none⟩) (n - k) (cap - k)) (n - k) (xs.drop (k * 4)):=by
 have hx:=h.1;have:=Vo (zw h) k n hk (ai _);have hne : cap ≠ k:=by omega
 unfold sliced at this;rw [ah hne] at this;simp only [dE,yT,aJ] at this;rw [aH (by rw [aP,hx,Nat.sub_mul]; omega)] at this;exact this
theorem WL {w : World} {B g n cap : Nat} {xs : List Value} (h : w.ownsRow B 49 4 (.slice (some ⟨g,0,none⟩) n cap) n xs) : ∃ cur,w.heap[g]? = some (.cells cur 49 (0,0)) ∧ cur.size = cap * 4 ∧ n ≤ cap:=by
 rcases h.2 with ⟨h',_⟩ | ⟨g',c2,cur,h',hb,hg,hnc,hcm,hcs,ji⟩
 ·
  cases h'
 injection h' with h' _ h'';injection h' with h';injection h' with h' _;subst h' h'';exact ⟨cur,hg,hcs,hnc⟩
theorem zLe (v : Value) (l : List It) (i : Nat) (x : It) (hb B : Nat) (w : World) (hown : fu w B v l) (hB : B ≤ w.heap.size) (hi : i ≤ l.length) (hs : l.length ≤ 1000000)
  (hh : w.heap[hb]? = some (.cells (g_ x).toArray 49 (0,0))) (hne : ∀ k,v.ownBlock = some k → k ≠ hb) :
  Calls Tryz.prog 142 #[v,.int .i64 (i : Int),.slice (some ⟨hb,0,none⟩) 1 1] w fun e w' => ∃ v',e = .returned v' ∧ fu w' B v' (l.take i ++ x :: l.drop i) ∧ Below B w w':=by
 have Dk : Rd w 4 (.slice (some ⟨hb,0,none⟩) 1 1) 1 (g_ x):=by
  refine ⟨rfl,some ⟨hb,0,none⟩,1,rfl,ai _,by unfold maxLen; omega,fun h => (by cases h),fun _ => ⟨hb,0,rfl,fun j u hj => ?_⟩⟩;have : w.cell? ⟨hb,0 + j,none⟩ = (g_ x).toArray[0 + j]?:=by simp [World.cell?,hh]
  rw [this,aJ,List.getElem?_toArray]; exact hj
 obtain ⟨oa,oc,rfl,ho1,ho2,CL⟩:=zM hown;have hm:=IC ho1 ho2;have gQ:=zh (show w.ownsRow B 49 4 _ l.length (zU l) from hown);have Hv:=zh Dk;have Hh:=zh hh;have hl:=yJ l;have Bj : zU (l.take i ++ x :: l.drop i) = (zU l).take (i * 4) ++ g_ x ++ (zU l).drop (i * 4):=by
  rw [zt,um,xu,uq,a_]
 have HF:=zh Bj;have EP:=zh (zp l);have ER:=zh (show ∀ u ∈ g_ x,u.oneCell' = true by rw [← xU]; exact zp [x]);have Eg : (g_ x).length = 4:=rfl;generalize hn : l.length = n at *;have HN:=zh hn;generalize zU l = xs at *;generalize g_ x = c at *;have HL:=zh hl;have EH:=zh Eg;clear hown Dk hh hn Bj hl Eg CL
 by_cases hin : i = n
 ·
  subst hin;obtain ⟨x1,y1,g1,_,_⟩:=vw (P:=Tryz.prog) yI (zw gQ.out) i (ai _);clear hne
  go_enter Tryz.func142,Tryz.ntmps142
  go_wp2_with (at_builtin; go_must (refine zi rfl (.tmp 23) (.tmp 24) 33 rfl yI B rfl gQ.out rfl Hv.out ER.out (by unfold maxLen; omega) (by omega) hB ?_); intro v4 w4 fp gO hv4; clear hv4);go_ret;refine ⟨_,rfl,yO fp ?_,zL (aj _ _) gQ.out hB gO⟩;rw [HF.out,aH (by rw [HL.out]; omega),bY (by rw [HL.out]; omega),bB]
 obtain ⟨g,rfl⟩ : ∃ g,oa = some ⟨g,0,none⟩:=by
  rcases gQ.out.2 with ⟨e,h0⟩ | ⟨g,_,_,e,_⟩
  ·
   omega
  injection e with e; exact ⟨g,e⟩
 have QP : g ≠ hb:=hne g rfl;have QQ : ((i : Int) == (n : Int)) = false:=beq_eq_false_iff_ne.2 (by omega);have g1:=qT (P:=Tryz.prog) yI g n oc i hi (by omega);clear hne
 by_cases hr : oc < n + 1
 ·
  obtain ⟨w2,c2,ha,eC,hb2,hc2⟩:=zHx gQ.out i (n + 1 - i) hi (by omega) (by omega) (by omega);have ha : ∀ ty,(Builtin.append_ #[33,3] ty #[.slice (some ⟨g,0,none⟩) i oc,.int .i64 ((n : Int) + 1 - (i : Int))]).run Tryz.prog w = .ok (.slice (some ⟨w.heap.size,0,none⟩) (n + 1) c2) w2:=fun ty => by
   have:=ha ty;rw [show ((n + 1 - i : Nat) : Int) = (n : Int) + 1 - (i : Int) by omega,show i + (n + 1 - i) = n + 1 by omega] at this;exact this
  rw [show i + (n + 1 - i) = n + 1 by omega] at eC;obtain ⟨_,_,_,Nu⟩:=WL eC;have Jt:=yX (P:=Tryz.prog) yI (a:=some ⟨g,0,none⟩) (n:=n) (cap:=oc) (fun x hx => ⟨g,0,by injection hx with hx; exact hx.symm⟩) i (by omega);have g2:=qT (P:=Tryz.prog) yI w.heap.size (n + 1) c2 i (by omega) (by omega);obtain ⟨w3,Nv,eu,fh⟩:=kw (P:=Tryz.prog) (sT:=33) yI eC (Hv.out.below hb2) i (n + 1 - i) (c2 - i) 1 (by simp [Nat.min_def]; omega) (by decide) (by decide) (by omega) (fun u hu => ER.out u (aY hu));have hb3 : Below w.heap.size w w3:=hb2.grown fh hb2.size (by intro r hr; injection hr with hr; omega);have g3:=kK w.heap.size (n + 1) c2 i (by omega) (by omega)
  obtain ⟨w4,Nw,fp,gO⟩:=kw (P:=Tryz.prog) (sT:=33) yI eu.drew ((WJ gQ.out i hi (by omega)).below hb3.drew) (i + 1) (n - i) (c2 - (i + 1)) (n - i) (by simp) (by omega) (by decide) (by omega) (fun u hu => EP.out u (dH (aY hu)));have hb4 : Below w.heap.size w w4:=hb3.drew.grown gO hb3.drew.size (by intro r hr; injection hr with hr; omega);have hgo : ((oc : Int) < (n : Int) + 1):=by omega
  have hw2:=zh (gQ.out.1);have ES:=zh fp;have fZ:=zh hb4;clear hb2 hb3 hb4 eC eu fp fh gO Nu
  go_enter Tryz.func142,Tryz.ntmps142
  go_wp2_with (at_builtin; go_must (refine Lib.wpList_append_run _ rfl (.tmp 34) (.tmp 39) 33 3 rfl _ _ rfl rfl _ _ (ha _) ?_));have j1 : IntKind.i64.wrap ((i : Int) + 1) = (i : Int) + 1:=aF _ (by omega);have j2 : (0 : Int) ≤ (i : Int) + 1:=by omega
  have j3 : (i : Int) + 1 ≤ (n : Int) + 1:=by omega
  have j4 : ((i : Int) + 1).toNat = i + 1:=by omega
  have j5 : (i : Int) ≤ (n : Int):=by omega
  go_region_held3 (fun _ => True) (trivial) (fail)
  go_wp2_with fail;go_ret;refine ⟨_,rfl,yO (ES.out.mono hB) ?_,fZ.out.mono hB⟩;rw [HF.out];have hz : (zU (List.replicate (n + 1 - i) fM)).length = (n + 1 - i) * 4:=by rw [yJ,dB]
  have hc1 : c.take (1 * 4) = c:=aH (by rw [EH.out]; omega);have hx1 : (xs.drop (i * 4)).take ((n - i) * 4) = xs.drop (i * 4):=aH (by rw [aP,HL.out]; omega);rw [hc1,hx1];exact zIe hi HL.out hz EH.out
 obtain ⟨ys,hy,hown1⟩:=zEW gQ.out 1 (by omega);have Jt:=yX (P:=Tryz.prog) yI (a:=some ⟨g,0,none⟩) (n:=n) (cap:=oc) (fun x hx => ⟨g,0,by injection hx with hx; exact hx.symm⟩) (n + 1) (by omega);simp only [cH] at Jt;rw [show ((1 : Nat) : Int) = 1 from rfl] at Jt;have g2:=qT (P:=Tryz.prog) yI g (n + 1) oc i (by omega) (by omega);have g3:=kK g (n + 1) oc i (by omega) (by omega);obtain ⟨cur,hg,hcs,_⟩:=WL hown1;have Ec:=zDh (aR QP) Hh.out hg (by omega) ((i + 1) * 4)
 obtain ⟨w3,Nv,eu,fh⟩:=kw (P:=Tryz.prog) (sT:=33) yI hown1.drew (WJ hown1.drew i (by omega) (by omega)) (i + 1) (n - i) (oc - (i + 1)) (n - i) (by simp [Nat.min_def]; omega) (by omega) (by decide) (by omega) (fun u hu => EP.out u (by
  rw [List.drop_append_of_le_length (by rw [HL.out]; omega),cE (by rw [aP,HL.out]; omega)] at hu
  exact dH hu))
 have hb3 : Below B w w3:=((aj B w).drew).grown fh hB (by intro r hr; injection hr with hr; have:=(hown1.lt g rfl).1; omega);have hv3:=Rd.grown (Hv.out.drew) fh (fun y hy => by injection hy with hy; subst hy; intro e; injection e with e; exact QP e.symm);obtain ⟨w4,Nw,fp,gO⟩:=kw (P:=Tryz.prog) (sT:=33) yI eu hv3 i (n + 1 - i) (oc - i) 1 (by simp [Nat.min_def]; omega) (by decide) (by decide) (by omega) (fun u hu => ER.out u (aY hu));have hb4 : Below B w w4:=hb3.grown gO (ak hB hb3.size) (by intro r hr; injection hr with hr; have:=(hown1.lt g rfl).1; omega);have ES:=zh fp;have fZ:=zh hb4;have HY:=zh hy;have hgo : ¬ ((oc : Int) < (n : Int) + 1):=by omega
 have j1 : IntKind.i64.wrap ((i : Int) + 1) = (i : Int) + 1:=aF _ (by omega);have j2 : (0 : Int) ≤ (i : Int) + 1:=by omega
 have j3 : (i : Int) + 1 ≤ (n : Int) + 1:=by omega
 have j4 : ((i : Int) + 1).toNat = i + 1:=by omega
 have j5 : (i : Int) ≤ (n : Int):=by omega
 clear hb3 hb4 hown1 eu fp fh gO hv3 hy hcs hg
 go_enter Tryz.func142,Tryz.ntmps142
 go_wp2_with (simp only [Ec]);have j6 : (i : Int) ≤ (n : Int) + 1:=by omega
 go_region_held3 (fun _ => True) (trivial) (fail)
 go_wp2_with fail;go_ret;refine ⟨_,rfl,yO ES.out ?_,fZ.out⟩;rw [HF.out];have hc1 : c.take (1 * 4) = c:=aH (by rw [EH.out]; omega);rw [hc1];exact zH8 hi HL.out (by rw [HY.out])
theorem zA7 {P : Program} {w : World} {ops : Array Oper} {o : Oper} {a : Act} {K : Act → World → Prop} {Q : Exit → Act → World → Prop} {E : Prop} (hgd : o.guard = none) (s x : Operand) (t tn : TypeId)
  (ho : o.op = .call { callee:=.builtin .append,args:=#[s,x],argTypes:=#[t,tn] }) (vs vx : Value) (hs : a.eval s = vs) (hx : a.eval x = vx)
  (v' : Value) (w' : World) (hr : (Builtin.append_ #[t,tn] o.type #[vs,vx]).run P w = .ok v' w') (h : K (a.put o.dst v') w') :
  if Region.wanted o (yielded ops a.tmps) = true then Oper.wp P o a w K Q else E:=by
 have hw : Region.wanted o (yielded ops a.tmps) = true:=by simp [Region.wanted,hgd]
 rw [ag hw];exact Lib.wp_append_run w s x t tn ho vs vx hs hx v' w' hr h
theorem zF7 {w : World} {B g n cap : Nat} {xs : List Value} (h : w.ownsRow B 49 4 (.slice (some ⟨g,0,none⟩) n cap) n xs) (k : Nat) (hk : k + 1 ≤ n) :
  ∃ p c',(∀ W kl,(Instr.slice 33 (.slice (some ⟨g,0,none⟩) n cap) (some (.int kl ((k : Int) + 1))) none none).run Tryz.prog W = .ok (.slice (some p) (n - (k + 1)) c') W) ∧
   Rd w 4 (.slice (some p) (n - (k + 1)) c') (n - (k + 1)) (xs.drop ((k + 1) * 4)):=by
 obtain ⟨_,_,_,hnc⟩:=WL h
 by_cases hq : k + 1 < cap
 ·
  exact ⟨_,_,kK g n cap k hk hq,WJ h (k + 1) hk hq⟩
 obtain rfl : cap = k + 1:=by omega
 obtain rfl : n = k + 1:=by omega
 refine ⟨⟨g,0,none⟩,0,fun W kl => ?_,?_⟩
 ·
  obtain ⟨h1,h2⟩:=wm (P:=Tryz.prog) yI;rw [run_slice_l W 33 (some ⟨g,0,none⟩) (k + 1) (k + 1) h1 kl ((k : Int) + 1) (by omega) (by omega),h2];have : ((k : Int) + 1).toNat = k + 1:=by omega
  simp [Result.andThen,sliced,this]
 have hx:=h.1;rw [bY (by omega),Nat.sub_self];exact ⟨rfl,some ⟨g,0,none⟩,0,rfl,ai _,aq _,fun h => (by cases h),fun h => absurd h (by simp)⟩
theorem zFy (g p cap : Nat) (hc : p + 1 ≤ cap) :
  ∀ W kl kh,(Instr.slice 33 (.slice (some ⟨g,0,none⟩) p cap) (some (.int kl (p : Int))) (some (.int kh ((p : Int) + 1))) none).run Tryz.prog W = .ok (.slice (some ⟨g,p * 4,none⟩) 1 (cap - p)) W:=fun W kl kh => by
 obtain ⟨h1,h2⟩:=wm (P:=Tryz.prog) yI;rw [run_slice_lh W 33 (some ⟨g,0,none⟩) p cap h1 kl kh (p : Int) ((p : Int) + 1) (by omega) (by omega) (by omega),h2];have h3 : ((p : Int) + 1).toNat = p + 1:=by omega
 have h4 : cap ≠ p:=by omega
 simp [Result.andThen,sliced,h3,h4,yT]
theorem zFJ (a : Option Addr) (n cap i : Nat) (hi : i + 1 ≤ n) (hn : n ≤ cap) :
  ∃ u,∀ W kl kh km,(Instr.slice 33 (.slice a n cap) (some (.int kl (i : Int))) (some (.int kh ((i : Int) + 1))) (some (.int km (n : Int)))).run Tryz.prog W = .ok u W:=by
 obtain ⟨h1,h2⟩:=wm (P:=Tryz.prog) yI;refine ⟨sliced a (i : Int).toNat ((i : Int) + 1).toNat (n : Int).toNat 4,fun W kl kh km => ?_⟩;rw [run_slice_lhm W 33 a n cap h1 kl kh km (i : Int) ((i : Int) + 1) (n : Int) (by omega) (by omega) (by omega) (by omega),h2]
 rfl
theorem zKn (v : Value) (l : List It) (i B : Nat) (w : World) (hown : fu w B v l) (hB : B ≤ w.heap.size) (hi : i < l.length) (hs : l.length ≤ 1000000) :
  Calls Tryz.prog 137 #[v,.int .i64 (i : Int),.int .i64 ((i : Int) + 1)] w fun e w' => ∃ v',e = .returned v' ∧ fu w' B v' (l.take i ++ l.drop (i + 1)) ∧ Below B w w':=by
 obtain ⟨oa,oc,rfl,ho1,ho2,CL⟩:=zM hown;have Bj : zU (l.take i ++ l.drop (i + 1)) = (zU l).take (i * 4) ++ (zU l).drop ((i + 1) * 4):=by
  rw [zt,xu,uq]
 have HF:=zh Bj;have EP:=zh (zp l);have hl:=yJ l;obtain ⟨p,hp⟩ : ∃ p,l.length = p + 1:=⟨l.length - 1,by omega⟩
 have hown' : w.ownsRow B 49 4 _ l.length (zU l):=hown;clear hown;have hown:=hown';clear hown';have Fi : (l.take i ++ l.drop (i + 1)).length = p:=by rw [ax,ay,aP]; omega
 rw [hp] at hown ho1 hl hs hi ⊢;generalize zU l = xs at *;obtain ⟨g,rfl⟩ : ∃ g,oa = some ⟨g,0,none⟩:=by
  rcases hown.2 with ⟨e,h0⟩ | ⟨g,_,_,e,_⟩
  ·
   omega
  injection e with e; exact ⟨g,e⟩
 have Jt:=yX (P:=Tryz.prog) yI (a:=some ⟨g,0,none⟩) (n:=p + 1) (cap:=oc) (fun x hx => ⟨g,0,by injection hx with hx; exact hx.symm⟩) i (by omega);obtain ⟨q,qc,g1,gJ⟩:=zF7 hown i hi;obtain ⟨w3,hap,eu,fh⟩:=zIp (vr hown i (by omega)).drew gJ.drew (fun u hu => EP.out u (dH hu)) (by omega);have e1 : i + (p + 1 - (i + 1)) = p:=by omega
 rw [e1] at hap eu;have hgB:=(hown.lt g rfl).1;have hb3 : Below B w w3:=((aj B w).drew).grown fh hB (by intro r hr; injection hr with hr; omega);obtain ⟨ys,hy,fp⟩:=zEW eu 1 (by omega);obtain ⟨w5,hcl,f_,gR⟩:=zIR fp p (by omega);have e2 : p + 1 - p = 1:=by omega
 rw [e2] at hcl;have hb5 : Below B w w5:=hb3.grown gR (ak hB hb3.size) (by intro r hr; injection hr with hr; omega);obtain ⟨u3,g3⟩:=zFJ (some ⟨g,0,none⟩) (p + 1) oc i hi ho1;simp only [cH] at g3;rw [show ((1 : Nat) : Int) = 1 from rfl] at g3;have g2:=zFy g p oc (by omega);have hl3:=eu.1;have jG:=vr f_ p (by omega);rw [dQ (by rw [ay,ax,hl3]; omega),dh,Nat.min_self,cE hl3] at jG;have HR:=zh jG;have gw:=zh hb5;have Jm:=zh Fi;have QQ : ((i : Int) == (i : Int) + 1) = false:=beq_eq_false_iff_ne.2 (by omega);have j1 : IntKind.i64.wrap ((i : Int) + 1) = (i : Int) + 1:=aF _ (by omega);have hm : oc ≤ 9223372036854775807:=by unfold maxLen at ho2; omega
 clear hown eu fp f_ jG fh gR hb3 hb5 gJ hl hl3 Fi Bj CL hp e1 e2 hy
 go_enter Tryz.func137,Tryz.ntmps137
 go_wp2_with fail;have j2 : (0 : Int) ≤ (i : Int) + 1:=by omega
 have j3 : (i : Int) + 1 ≤ (p : Int) + 1:=by omega
 have j4 : ((i : Int) + 1).toNat = i + 1:=by omega
 have j5 : (i : Int) ≤ (p : Int) + 1:=by omega
 have j6 : (i : Int) ≤ (oc : Int):=by omega
 go_region_held3 (fun _ => True) (trivial) (refine zA7 rfl (.tmp 22) (.tmp 25) 33 33 rfl _ _ (by simp [Act.eval]) (by simp [Act.eval]) _ _ (hap _) ?_)
 go_wp2_with fail;go_ret;exact ⟨_,rfl,yO HR.out HF.out.symm,gw.out⟩
theorem zLo (v : Value) (l : List It) (x : It) (w : World) (h : i_ w v l) (hk : wZ l) (hs : l.length ≤ 100000) :
  Calls Tryz.prog 101 #[v,jS x] w fun e w' => ∃ v',e = .returned v' ∧ fu w' w.heap.size v' (ins (fE l) x) ∧ Below w.heap.size w w':=by
 have HS:=zh (fun w h => hk v w h);have hlen:=yZ l;have HA:=zh (vF l);have HF:=zh (fun v w h => kJ v (fE l) x.key w h (by omega));have Ks:=zh (fun v i hb B w h1 h2 h3 => zLe v (fE l) i x hb B w h1 h2 h3 (by omega));have DT:=zh (fun r (h : Place (fE l) x.key r) => zML h (vF l));have Hr:=zh h;obtain ⟨a,cap,rfl,_,_⟩:=h.shape;generalize fE l = s at *;generalize ins s x = res at *;obtain ⟨W0,hW0⟩ : ∃ W0,W0 = w.alloc (.cells #[.int .u64 x.key,.int .u32 x.ck,.int .i64 x.off,.int .i64 x.size] 49):=⟨_,rfl⟩
 have hb0 : Below w.heap.size w W0:=by rw [hW0]; exact (aj _ _).alloc (ai _) _
 have eQ:=zh hb0;have d0 : W0.cell? ⟨w.heap.size,0,none⟩ = some (.int .u64 x.key):=by rw [hW0]; simp
 have d1 : W0.cell? ⟨w.heap.size,1,none⟩ = some (.int .u32 x.ck):=by rw [hW0]; simp
 have d2 : W0.cell? ⟨w.heap.size,2,none⟩ = some (.int .i64 x.off):=by rw [hW0]; simp
 have d3 : W0.cell? ⟨w.heap.size,3,none⟩ = some (.int .i64 x.size):=by rw [hW0]; simp
 have EG:=zh hW0;have hs0 : w.heap.size ≤ W0.heap.size:=hb0.size;clear h hk hW0 hb0
 go_enter Tryz.func101,Tryz.ntmps101
 go_wp2_with fail;rw [← EG.out];refine (HS.out _ (Hr.out.below eQ.out)).mono ?_; rintro e w1 ⟨v1,rfl,hown1,hb1⟩;have HO:=zh hown1;have HB:=zh hb1;have e0:=Below.keeps hb1 _ _ d0;have e1:=Below.keeps hb1 _ _ d1;have e2:=Below.keeps hb1 _ _ d2;have e3:=Below.keeps hb1 _ _ d3;clear hown1 hb1 d0 d1 d2 d3;go_wp2_with fail;refine (HF.out _ _ HO.out.rd).mono ?_; rintro e w2 ⟨⟨r,hp,rfl⟩,hb2⟩;have eV:=zh (HB.out.trans (hb2.mono HB.out.size));have gu:=zh (zI HO.out hb2);have HP:=zh hp;have d0:=Below.keeps hb2 _ _ e0;have d1:=Below.keeps hb2 _ _ e1;have d2:=Below.keeps hb2 _ _ e2;have d3:=Below.keeps hb2 _ _ e3;clear hb2 hp e0 e1 e2 e3;have lU:=zh (DT.out r HP.out);obtain ⟨oa,oc,rfl,ho1,ho2,CL⟩:=zM gu.out;have hs2 : W0.heap.size ≤ w2.heap.size:=eV.out.size
 by_cases hy : r < s.length ∧ (d_ s r).key = x.key
 ·
  have HR:=zh (lU.out.trans (ag hy));rw [aD hy];have hrl:=hy.1;obtain ⟨g,rfl⟩ : ∃ g,oa = some ⟨g,0,none⟩:=by
   rcases gu.out.2 with ⟨e,h0⟩ | ⟨g,_,_,e,_⟩
   ·
    omega
   injection e with e; exact ⟨g,e⟩
  have hgB:=(gu.out.lt g rfl).1;obtain ⟨_,_,e,c0,c1,c2,c3⟩:=(yt (zw gu.out)).at hrl;injection e with e; injection e with e1 e2; subst e1 e2;simp only [aJ] at c0 c1 c2 c3;have f0:=gu.out.frozenAt (r * 4);have f1:=gu.out.frozenAt (r * 4 + 1);have f2:=gu.out.frozenAt (r * 4 + 2);have f3:=gu.out.frozenAt (r * 4 + 3);have jM:=zh (VE gu.out r hrl x);clear hy;generalize d_ s r = y at *;generalize hn : s.length = n at *;go_wp2_with fail;go_ret;refine ⟨_,rfl,?_,eQ.out.trans (((((eV.out.setCell hgB _).setCell hgB _).setCell hgB _).setCell hgB _).mono hs0)⟩;rw [HR.out];exact (yO jM.out rfl).mono hs0
 have HR:=zh (lU.out.trans (ah hy));rw [aC hy];clear hy;have hne : ∀ k,(Value.slice oa s.length oc).ownBlock = some k → k ≠ w2.heap.size:=fun k hk => by have:=(gu.out.lt k hk).2; omega
 have HC:=zh (Ks.out (.slice oa s.length oc) r w2.heap.size W0.heap.size (w2.alloc (.cells (g_ x).toArray 49)) (gu.out.alloc _) (by simp; omega) HP.out.1 (dg w2 _) hne);have HBA:=zh (eV.out.alloc hs2 (.cells (g_ x).toArray 49));clear hne;go_wp2_with fail;refine HC.out.mono ?_; rintro e w3 ⟨v3,rfl,eu,hb3⟩;have lr:=zh eu;have gp:=zh (HBA.out.trans hb3);clear eu hb3;go_wp2_with fail;go_ret;refine ⟨_,rfl,?_,eQ.out.trans (gp.out.mono hs0)⟩;rw [HR.out];exact lr.out.mono hs0
theorem zJN (v : Value) (l : List It) (key : Int) (w : World) (h : i_ w v l) (hk : wZ l) (hs : l.length ≤ 100000) :
  Calls Tryz.prog 98 #[v,.int .u64 key] w fun e w' => ∃ v',e = .returned v' ∧ fu w' w.heap.size v' (gB (fE l) key) ∧ Below w.heap.size w w':=by
 have HS:=zh (hk v w h);have hlen:=yZ l;have HF:=zh (fun v w h => kJ v (fE l) key w h (by omega));have HDe:=zh (fun v i B w h1 h2 h3 => zKn v (fE l) i B w h1 h2 h3 (by omega));have DT:=zh (fun r (h : Place (fE l) key r) => zHc h (vF l));obtain ⟨a,cap,rfl,_,_⟩:=h.shape;generalize fE l = s at *;generalize gB s key = res at *;clear h hk
 go_enter Tryz.func98,Tryz.ntmps98
 go_wp2_with fail;refine HS.out.mono ?_; rintro e w1 ⟨v1,rfl,hown1,hb1⟩;have HO:=zh hown1;have HB:=zh hb1;clear hown1 hb1;go_wp2_with fail;refine (HF.out _ _ HO.out.rd).mono ?_; rintro e w2 ⟨⟨r,hp,rfl⟩,hb2⟩;have eV:=zh (zA HB.out hb2);have gu:=zh (zI HO.out hb2);have HP:=zh hp;clear hb2 hp;have lU:=zh (DT.out r HP.out);have hs2 : w.heap.size ≤ w2.heap.size:=eV.out.size
 by_cases hy : r < s.length ∧ (d_ s r).key = key
 ·
  have HR:=zh (lU.out.trans (ag hy));rw [aD hy];have hrl:=hy.1;have HC:=zh (HDe.out v1 r w.heap.size w2 gu.out hs2 hrl);clear hy;go_wp2_with fail;refine HC.out.mono ?_; rintro e w3 ⟨v3,rfl,eu,hb3⟩;have lr:=zh eu;have gp:=zh (eV.out.trans hb3);clear eu hb3;go_wp2_with fail;go_ret;refine ⟨_,rfl,?_,gp.out⟩;rw [HR.out];exact lr.out
 have HR:=zh (lU.out.trans (ah hy));rw [aC hy];clear hy;go_wp2_with fail;go_ret;refine ⟨_,rfl,?_,eV.out⟩;rw [HR.out];exact gu.out
def xV (y : It) : Nat:=eP y.size.toNat
def yP (M : Mp) (key : Int) : Mp:=
 match zR M key with
 | none => M
 | some y => if M.dZ + (xV y : Int) ≤ 1099511627776 then ⟨fun i => if i = zg key then gB (M.st i) key else M.st i,M.live - (xV y : Int),M.dZ + (xV y : Int)⟩ else M
theorem qK (y : It) (hy : 0 ≤ y.size) (w : World) : Calls Tryz.prog 97 #[jS y] w fun e w' => e = .returned (.int .i64 (xV y : Int)) ∧ Below w.heap.size w w':=
 (zBf y w).mono fun e w' ⟨⟨n,he,_,h⟩,hb⟩ => ⟨by rw [he,h hy]; rfl,hb⟩
theorem zJb {a b : Int} (ha : Fx.Small a) (hb : Fx.Small b) : (FloatKind.f64.format.order (Fx.fb a) (Fx.fb b) == some Ordering.gt) = decide (b < a):=by
 have h : FloatKind.f64.format.order (Fx.fb a) (Fx.fb b) = some (compare a b):=Fx.Jo a b ha hb;rw [h]
 show (some (compareOfLessAndEq a b) == some Ordering.gt) = _
 unfold compareOfLessAndEq
 by_cases h1 : a < b
 ·
  rw [ag h1,aC (by omega)]; rfl
 rw [ah h1]
 by_cases h2 : a = b
 ·
  rw [ag h2,aC (by omega)]; rfl
 rw [ah h2,aD (by omega)]; rfl
theorem xj {M : Mp} {key : Int} {y : It} (h : zR M key = some y) : xA M = true ∧ y ∈ M.st (zg key) ∧ y.key = key ∧ 0 ≤ y.size:=by
 unfold zR at h
 split at h
 ·
  rename_i hv;obtain ⟨h1,h2⟩:=xe h;exact ⟨hv,h1,h2,kx (((zO M).1 hv).ok _ (we key)) y h1⟩
 cases h
theorem TL (y : It) : xV y ≤ 4127:=xt _
theorem zAp (s : Sl) (M : Mp) (key : Int) (w : World) (h : fq w s M.st) (hs : ∀ i,i < 8 → (M.st i).length ≤ 10000) :
  Calls Tryz.prog 55 #[yK s M.live M.dZ,.int .u64 key] w fun e w' => (∃ s',e = .returned (yK s' (yP M key).live (yP M key).dZ) ∧ eZ w' w.heap.size s' (yP M key).st) ∧ Below w.heap.size w w':=by
 have HG:=zh (fun s W h => zFW s M key W h hs);have eG:=zh ((eM.new w s M.live M.dZ 36).below (za (w.alloc (.cells (yj s M.live M.dZ) 36)) Sl.nil 0 0 36));have Cf:=zh (eM.new (w.alloc (.cells (yj s M.live M.dZ) 36)) Sl.nil 0 0 36);have eQ:=zh (zA (za w s M.live M.dZ 36) (za (w.alloc (.cells (yj s M.live M.dZ) 36)) Sl.nil 0 0 36));rw [show (w.alloc (.cells (yj s M.live M.dZ) 36)).heap.size = w.heap.size + 1 by simp] at Cf;have HC:=zh (fun W h => kR s M.live M.dZ M.st W h (fun i hi => ak (hs i hi) (by decide)));have Hr:=zh h;have jI:=we key;have HS:=zh (fun W => tQ key W);have IK:=zh (fun y (hy : zR M key = some y) => (⟨tZ ((zO M).1 (xj hy).1) hs,((zO M).1 (xj hy).1).g0,((zO M).1 (xj hy).1).g1,(xj hy).2.2.2,yQ (uV (((zO M).1 (xj hy).1).ok _ jI))⟩ : _ ∧ _ ∧ _ ∧ _ ∧ _))
 have IL:=zh (fun v W h => zJN v (M.st (zg key)) key W h (wP _ (ak (hs _ jI) (by decide))) (ak (hs _ jI) (by decide)));have EG:=zh (show zR M key = none → yP M key = M from fun h => by unfold yP; rw [h]);have Ju:=zh (show ∀ y,zR M key = some y → M.dZ + (xV y : Int) ≤ 1099511627776 → yP M key = ⟨fun i => if i = zg key then gB (M.st i) key else M.st i,M.live - (xV y : Int),M.dZ + (xV y : Int)⟩ from fun y h h2 => by unfold yP; rw [h]; exact ag h2);have ET:=zh (show ∀ y,zR M key = some y → ¬ M.dZ + (xV y : Int) ≤ 1099511627776 → yP M key = M from fun y h h2 => by unfold yP; rw [h]; exact ah h2);clear h hs;generalize zR M key = o at *;generalize yP M key = WM at *;generalize zg key = k at *;obtain ⟨f,L,G⟩:=M;dsimp only at *
 go_enter Tryz.func55,Tryz.ntmps55
 go_wp2_with fail;refine (HC.out _ (Hr.out.below eQ.out)).mono ?_; rintro e w1 ⟨⟨s1,rfl,hown1⟩,hb1⟩;have fC:=zh (eG.out.below hb1);have Ef:=zh (Cf.out.below hb1);have eW:=zh (zA eQ.out hb1);have lZ:=zh (hown1.mono (show w.heap.size + 2 ≤ _ by simp));obtain ⟨c0,c1,c2,c3,c4,c5,c6,c7,c8,c9⟩:=fC.out.q;have cF:=fC.out.f;clear hown1 hb1 HC eG Cf eQ;go_upto_region 2 with fail;change Code.wp _ _ _ _ (yH w1 w.heap.size s1 L G);obtain ⟨V,hV⟩ : ∃ V,yH w1 w.heap.size s1 L G = V:=⟨_,rfl⟩
 have Fh:=zh (show eM V w.heap.size s1 L G from hV ▸ fC.out.all s1 L G);have Mj:=zh (show eM V (w.heap.size + 1) Sl.nil 0 0 from hV ▸ Ef.out.mD (by omega) s1 L G);have jO:=zh (show Below w.heap.size w V from hV ▸ zY eW.out (ai _) s1 L G);have Js:=zh (show eZ V (w.heap.size + 2) s1 f from hV ▸ lZ.out.j_ (by omega) s1 L G);rw [hV];clear hV c0 c1 c2 c3 c4 c5 c6 c7 c8 c9 cF fC Ef eW lZ;obtain ⟨c0,c1,c2,c3,c4,c5,c6,c7,c8,c9⟩:=Fh.out.q;have cF:=Fh.out.f;go_wp2_with fail;refine (HS.out _).mono ?_; rintro e w2 ⟨rfl,rfl⟩;go_wp2_with fail;refine (HG.out s1 V Js.out.rd).mono ?_; rintro e w2 ⟨rfl,hb2⟩;have gm:=zh ((Fh.out.below hb2).below (zz w2 (o.getD fM)));have iq:=zh ((Mj.out.below hb2).below (zz w2 (o.getD fM)));have eV:=zh (zA (zA jO.out hb2) (zz w2 (o.getD fM)));have gu:=zh ((Js.out.keep hb2).keep (zz w2 (o.getD fM)));have BX:=zh (gG.new w2 (o.getD fM))
 clear hb2 c0 c1 c2 c3 c4 c5 c6 c7 c8 c9 cF Fh Mj jO Js HG HS
 cases o with
 | none =>
  have HW:=zh (EG.out rfl);go_upto_region 5 with fail;obtain ⟨V3,Nx⟩ : ∃ V3,w2.alloc (xO fM) = V3:=⟨_,rfl⟩
  rw [show w2.alloc (xO ((none : Option It).getD fM)) = V3 from Nx] at gm iq eV gu;rw [Nx];clear Nx BX;obtain ⟨c0,c1,c2,c3,c4,c5,c6,c7,c8,c9⟩:=gm.out.q;have cF:=gm.out.f;obtain ⟨d0,d1,d2,d3,d4,d5,d6,d7,d8,d9⟩:=iq.out.q;have dF:=iq.out.f;go_wp2_with fail;change bodyPost _ _ _ _ _ (yH V3 (w.heap.size + 1) s1 L G);have hby:=iq.out.all s1 L G;have lT:=zh ((gu.out.j_ (show w.heap.size + 1 < w.heap.size + 2 by omega) s1 L G).mono (show w.heap.size ≤ w.heap.size + 2 by omega));have ey:=zh (zY eV.out (show w.heap.size ≤ w.heap.size + 1 by omega) s1 L G);generalize yH V3 (w.heap.size + 1) s1 L G = V9 at *;exact au (v:=yK s1 L G) (by simp [results,Tryz.results55,go_sem,hby.q]) rfl ⟨⟨_,by rw [HW.out],by rw [HW.out]; exact lT.out⟩,ey.out⟩
 | some y =>
  obtain ⟨⟨Ml,WI,Md⟩,Mm,K8,hy0,hsk⟩:=IK.out y rfl;have Mn:=zh hy0;have EL:=zh hsk;have Ny:=zh (Ju.out y rfl);have Nz:=zh (ET.out y rfl);clear IK EG Ju ET hy0 hsk;go_upto_region 6 with fail;obtain ⟨V3,Nx⟩ : ∃ V3,w2.alloc (xO y) = V3:=⟨_,rfl⟩
  rw [show w2.alloc (xO ((some y).getD fM)) = V3 from Nx] at gm iq eV gu BX;rw [show (some y).getD fM = y from rfl] at BX;rw [Nx];clear Nx;have hlen:=TL y;have Nt:=zh (fun u : ei V3 => tJ s1 L G u.w');have iL:=zh (fun u : ei V3 => qK y Mn.out u.w');have HTu:=zh (fun u : ei V3 => zBV (xV y) (by omega) u.w');generalize xV y = n at *;have hadd:=fun W => TK (a:=L) (b:=G) (c:=-(n : Int)) (d:=(n : Int)) Ml (zr (by omega) (by omega)) (zr (by omega) (by omega)) (zr (by omega) (by omega)) (zr (by omega) (by omega)) (zr (by omega) (by omega)) 168 W
  have hgt:=zJb (a:=G + (n : Int)) (b:=1099511627776) (zr (by omega) (by omega)) (zr (by omega) (by omega));rw [show Fx.fb 1099511627776 = 4787326403894837248 from rfl] at hgt;have Pv:=zh (fun s W => Wb s L G (L + -(n : Int)) (G + (n : Int)) (zr (by omega) (by omega)) (zr (by omega) (by omega)) W);have e : L + -(n : Int) = L - (n : Int):=by omega
  rw [e] at hadd Pv;clear e;obtain ⟨c0,c1,c2,c3,c4,c5,c6,c7,c8,c9⟩:=gm.out.q;have cF:=gm.out.f;obtain ⟨i0,i1,i2,i3⟩:=BX.out.t.q;have iF:=BX.out.f;have f0:=zB c0;have f1:=zB c1;have f2:=zB c2;have f3:=zB c3;have f4:=zB c4;have f5:=zB c5;have f6:=zB c6;have f7:=zB c7;have f8:=zB c8;have f9:=zB c9;have k0:=zB i0;have k1:=zB i1;have k2:=zB i2;have k3:=zB i3;clear c0 c1 c2 c3 c4 c5 c6 c7 c8 c9 cF i0 i1 i2 i3 iF;refine zC (by kernel_rfl) (by kernel_rfl) ?_
  repeat (go_big_quiet_step ((first | exact zE (Nt.out _) | exact zE (iL.out _) | exact zE (HTu.out _))))
  refine aA ?_;intro _ hw';obtain ⟨u,hw'⟩:=hw';subst hw';have gP:=zh (gm.out.below u.h);have mE:=zh (iq.out.below u.h);have gp:=zh (zA eV.out u.h);have lr:=zh (gu.out.keep u.h);generalize u.w' = w3 at *;clear f0 f1 f2 f3 f4 f5 f6 f7 f8 f9 k0 k1 k2 k3 Nt iL HTu hadd gm iq eV gu BX
  by_cases hgo : G + (n : Int) ≤ 1099511627776
  ·
   have HW:=zh (Ny.out hgo);rw [aC (show ¬ (1099511627776 < G + (n : Int)) by omega)] at hgt;have Fg : s1.v k = .slice (s1.a k) (s1.n k) (s1.c k):=rfl;have ck:=gP.out.c k jI;have NA:=zh (IL.out _ w3 (lr.out k jI).rd);rw [EL.out] at NA;rw [Fg] at ck NA;clear Fg;go_wp2_with fail;refine NA.out.mono ?_; rintro e w4 ⟨v4,rfl,fp,hb4⟩;have iM:=zh (gP.out.below hb4);have C6:=zh (mE.out.below hb4);have fZ:=zh (zA gp.out hb4);have jx:=zh (lr.out.keep hb4);have HN4:=zh (fp.mono (show w.heap.size + 2 ≤ w3.heap.size from mE.out.lt));obtain ⟨va,vc,hv4,_⟩:=zM fp;subst hv4;clear fp hb4 NA ck gP mE gp lr;have ck:=iM.out.c k jI;have cf:=iM.out.f k;have Fg : s1.v k = .slice (s1.a k) (s1.n k) (s1.c k):=rfl;rw [Fg] at ck;generalize (gB (f k) key).length = dn at *;go_upto_region 10 with fail
   obtain ⟨V5,IP⟩ : ∃ V5,w4.setCell ⟨w.heap.size,k,none⟩ (.slice va dn vc) = V5:=⟨_,rfl⟩
   have fw:=zh (show eM V5 w.heap.size (s1.set k va dn vc) L G from IP ▸ iM.out.K2 jI va dn vc);have C7:=zh (show eM V5 (w.heap.size + 1) Sl.nil 0 0 from IP ▸ C6.out.ep (p:=⟨w.heap.size,k,none⟩) (show w.heap.size ≠ w.heap.size + 1 by omega) _);have gw:=zh (show Below w.heap.size w V5 from IP ▸ fZ.out.setCell (p:=⟨w.heap.size,k,none⟩) (ai _) _);have iV:=zh (show eZ V5 (w.heap.size + 2) (s1.set k va dn vc) (fun i => if i = k then gB (f k) key else f i) from IP ▸ eZ.set (fun i hi => yD (jx.out i hi) (p:=⟨w.heap.size,k,none⟩) (show w.heap.size < w.heap.size + 2 by omega) _) (show fu _ _ _ (gB (f k) key) from yO (yD HN4.out (p:=⟨w.heap.size,k,none⟩) (show w.heap.size < w.heap.size + 2 by omega) _) rfl));rw [IP];clear IP ck cf Fg iM C6 fZ jx HN4
   have hfe : (fun i => if i = k then gB (f k) key else f i) = (fun i => if i = k then gB (f i) key else f i):=funext fun i => by
    by_cases e : i = k
    ·
     rw [ag e,ag e,e]
    rw [ah e,ah e]
   rw [hfe] at iV;clear hfe;generalize s1.set k va dn vc = s2 at *;obtain ⟨c0,c1,c2,c3,c4,c5,c6,c7,c8,c9⟩:=fw.out.q;have cF:=fw.out.f;go_wp2_with fail;refine (Pv.out s2 V5).mono ?_; rintro e w6 ⟨rfl,l9⟩;have ik:=zh (fw.out.below l9);have K9:=zh (C7.out.below l9);have jK:=zh (zA gw.out l9);have mC:=zh (iV.out.keep l9);clear l9 c0 c1 c2 c3 c4 c5 c6 c7 c8 c9 cF;generalize L - (n : Int) = L2 at *;generalize G + (n : Int) = G2 at *;obtain ⟨c0,c1,c2,c3,c4,c5,c6,c7,c8,c9⟩:=ik.out.q;have cF:=ik.out.f;obtain ⟨d0,d1,d2,d3,d4,d5,d6,d7,d8,d9⟩:=K9.out.q;have dF:=K9.out.f;go_wp2_with fail;change bodyPost _ _ _ _ _ (yH w6 (w.heap.size + 1) s2 L2 G2);have hby:=K9.out.all s2 L2 G2;have lT:=zh ((mC.out.j_ (show w.heap.size + 1 < w.heap.size + 2 by omega) s2 L2 G2).mono (show w.heap.size ≤ w.heap.size + 2 by omega))
   have ey:=zh (zY jK.out (show w.heap.size ≤ w.heap.size + 1 by omega) s2 L2 G2);generalize yH w6 (w.heap.size + 1) s2 L2 G2 = V9 at *;exact au (v:=yK s2 L2 G2) (by simp [results,Tryz.results55,go_sem,hby.q]) rfl ⟨⟨_,by rw [HW.out],by rw [HW.out]; exact lT.out⟩,ey.out⟩
  have HW:=zh (Nz.out (by omega));rw [aD (show 1099511627776 < G + (n : Int) by omega)] at hgt;obtain ⟨c0,c1,c2,c3,c4,c5,c6,c7,c8,c9⟩:=gP.out.q;have cF:=gP.out.f;obtain ⟨d0,d1,d2,d3,d4,d5,d6,d7,d8,d9⟩:=mE.out.q;have dF:=mE.out.f;go_wp2_with fail;change bodyPost _ _ _ _ _ (yH w3 (w.heap.size + 1) s1 L G);have hby:=mE.out.all s1 L G;have lT:=zh ((lr.out.j_ (show w.heap.size + 1 < w.heap.size + 2 by omega) s1 L G).mono (show w.heap.size ≤ w.heap.size + 2 by omega));have ey:=zh (zY gp.out (show w.heap.size ≤ w.heap.size + 1 by omega) s1 L G);generalize yH w3 (w.heap.size + 1) s1 L G = V9 at *;exact au (v:=yK s1 L G) (by simp [results,Tryz.results55,go_sem,hby.q]) rfl ⟨⟨_,by rw [HW.out],by rw [HW.out]; exact lT.out⟩,ey.out⟩
end Go.Proofs.YtcgfilmmokmdjaaGreat
