import Derived.Deep.Quiet
import Derived.Test.YtcgfilmmokmdjaaGreatQAF
import Derived.Laws.Externs
set_option linter.all false
set_option maxRecDepth 100000
set_option maxHeartbeats 32000000
namespace Go.Proofs.YtcgfilmmokmdjaaGreat
open Go.Proofs.Tryz
open Go
section
variable {P:Program} {ops:Array Oper} {md:Region.Mode} {C:World->Prop}
def hd (P:Program) (md:Region.Mode) (ops:Array Oper) (C:World->Prop) (n:Nat) (L:Array Bool->Act->Prop):Nat->Array Bool->Act->Prop
 |0,s,a=>L s a
 |f+1,s,a=>Region.ready md ops s≠[]/\∀ i∈Region.ready md ops s,i<n/\qOp P ops C i (hd P md ops C n L f (s.setIfInBounds i true)) a
def zJp {n g:Nat} {L:Array Bool->Act->Prop} {Q:Exit->Act->World->Prop} (hL:∀ s a w,C w->L s a->wpAny P md ops Q g s a w) :
  ∀ (f:Nat) (s:Array Bool) (a:Act) (w:World),C w->hd P md ops C n L f s a->wpAny P md ops Q (f+g) s a w
 |0,s,a,w,hw,h=>by rw[aN];exact hL _ _ _ hw h
 |f+1,s,a,w,hw,h=>by
  rw[show f+1+g=(f+g)+1 by omega];exact ⟨fun e=>absurd e h.1,fun i hi=>wpOp_of_qOp hw (fun a' w' hw' h'=>zJp hL f _ a' w' hw' h') (h.2 i hi).2⟩
def zLQ {n i:Nat} {o:Oper} {v:Value} {L:Array Bool->Act->Prop} (hi:ops[i]?=some o) (hsel:∀ (j:Nat) (o:Oper) cs b,ops[j]?=some o->o.op≠.select cs b)
  (hs:Region.sinkB md ops n=true) (hc:Region.chainB md ops n=true) (hn:n<ops.size) (hin:i<n) (hL:∀ s a,L s a->∀ j∈Region.ready md ops s,n<=j)
  (f:Nat):∀ (s:Array Bool) (a:Act),HeadInv md ops n s ->
   (∀ j oj,ops[j]?=some oj->j≠i->s.getD j true=false->(∀ e∈oj.after,Region.binds md e=true->e.on≠i)->o.apart ops oj=true) ->
   i∈Region.ready md ops s->YieldsIn P ops C o v a->hd P md ops C n L f (s.setIfInBounds i true) (a.put o.dst v)->hd P md ops C n L (f+1) s a:=by
 induction f with
 |zero =>
  intro s a inv _ hr hy H;refine ⟨(fun e=>by rw[e] at hr;cases hr),fun j hj=>?_⟩;have hjn:j<n:=Nat.lt_of_not_le fun h=>tail_waits hs hc hn inv _ i rfl hin (mem_ready.1 hr).1 j h hj
  refine ⟨hjn,?_⟩
  by_cases e:j=i
  ·subst e;exact hy.qOp hi H
  have:=hL _ _ H j (ready_mono hj e);omega
 |succ f ih =>
  intro s a inv hfree hr hy H;refine ⟨(fun e=>by rw[e] at hr;cases hr),fun j hj=>?_⟩;have hun:=(mem_ready.1 hr).1;have hjn:j<n:=Nat.lt_of_not_le fun h=>tail_waits hs hc hn inv _ i rfl hin hun j h hj
  refine ⟨hjn,?_⟩
  by_cases e:j=i
  ·subst e;exact hy.qOp hi H
  obtain ⟨OQ,oj,Nw,hall⟩:=mem_ready.1 hj;have hno:∀ e∈oj.after,Region.binds md e=true->e.on≠i:=fun x hx hb heq=>by
   have h1:=hall x hx hb;rw[heq,getD_both hun] at h1
   cases h1
  have h2:=qOp_put Nw (hfree j oj Nw e OQ hno) (fun cs b=>hsel i o cs b hi) (fun cs b=>hsel j oj cs b Nw) hy (H.2 j (ready_mono hj e)).2;refine qOp_mono (fun a' h3=>ih (s.setIfInBounds j true) a' (inv.set hj hjn) (fun k ok hk hki hk' Vp=>hfree k ok hk hki ?_ Vp) (ready_mono hr (aQ e)) h3.1 ?_) h2
  ·by_cases hjk:j=k
   ·subst hjk;exact OQ
   rw[bH true hjk] at hk';exact hk'
  rw[Array.setIfInBounds_comm _ _ e];exact h3.2
def zHZ {n g:Nat} {R:Act->Prop} (hsel:Region.noSelect ops=true) (hs:Region.sinkB md ops n=true) (hc:Region.chainB md ops n=true) (hn:n<ops.size) :
  ∀ (l:List Oper) (k:Nat) (s:Array Bool) (a:Act),(∀ j,j<l.length->l[j]?=ops[k+j]?)->k+l.length=n->HeadInv md ops n s ->
  Region.lexHead md ops g l.length k s=true->wpQuiet P ops C R l a->hd P md ops C n (fun s' a'=>Region.seqB md ops g n s'=true/\R a') l.length s a
 |[],k,s,a,_,hk,_,hB,h=>by
  obtain rfl:k=n:=by simpa using hk
  exact ⟨by simpa [Region.lexHead] using hB,h⟩
 |o::l,k,s,a,hl,hk,inv,hB,h=>by
  have h0:ops[k]?=some o:=by simpa using (hl 0 (by simp)).symm
  simp only[aW,Region.lexHead,aO] at hB;obtain ⟨⟨hr,hf⟩,hB'⟩:=hB;have hkn:k<n:=by simp only[aW] at hk;omega
  have hr':k∈Region.ready md ops s:=by simpa using hr
  have hq:qOp P ops C k (wpQuiet P ops C R l) a:=by unfold qOp;simp only[h0];exact h
  obtain ⟨v,hy,hK⟩:=yieldsIn_of_qOp h0 hq;exact zLQ h0 (Region.noSelect_spec hsel) hs hc hn hkn (fun s' a' h'=>seqB_ready h'.1) l.length s a inv (Region.free_spec h0 hf) hr' hy
   (zHZ hsel hs hc hn l (k+1) _ _ (fun j hj=>by have:=hl (j+1) (by simp;omega);simpa [cS,Nat.add_comm 1 j] using this) (by simp only[aW] at hk;omega) (inv.set hr' hkn) hB' hK)
def qE {id:Nat} {Q:Exit->Act->World->Prop} {a:Act} {w:World} {l:List Oper} (n:Nat) (hm:P.follows .mixedOrders=true) (hB:Region.lexTailB .any l.toArray n=true) (hw:C w.drew)
  (h:wpQuiet P l.toArray C (fun a'=>∀ w',C w'->wpList P l.toArray Q (l.drop n) a' w') (l.take n) a):(Code.region id l.toArray true).wp P Q a w:=by
 simp only[Region.lexTailB,aO,aR] at hB;obtain ⟨⟨⟨⟨hsel,hn⟩,hs⟩,hc⟩,Vq⟩:=hB;have hn':n<l.length:=by simpa using hn
 have htl:(l.take n).length=n:=by simp;omega
 have iz:(l.drop n).length=l.toArray.size-n:=by simp
 have Vr:HeadInv .any l.toArray n (Array.replicate l.toArray.size false):=
  ⟨by simp,fun j oj _ hl=>(by rw[getD_replicate_false] at hl;cases hl),fun t _ ht=>getD_in (by simpa using ht) (getD_replicate_false _ _)⟩
 have H:=zHZ (md:=.any) (g:=l.toArray.size-n) hsel hs hc hn (l.take n) 0 _ a (fun j hj=>by
  have hj':j<n:=by rw[htl] at hj;exact hj
  simp[hj']) (by simpa using htl) Vr (by rw[htl];exact Vq) h
 refine wp_region_any hm ?_
 have:=zJp (Q:=Q) (g:=l.toArray.size-n) (fun s a' w' hw' hL=>by
  have:=wpAny_of_seq (md:=.any) (Q':=Q) (l.drop n) n s a' w' (fun j=>by simp[cR]) (by rw[iz];exact hL.1) (hL.2 w' hw')
  rwa [iz] at this) _ _ _ w.drew hw H
 rw[htl,show n+(l.toArray.size-n)=l.toArray.size by omega] at this;exact this
end
variable {w:World}
def qN {P:Program} {id:Nat} {Q:Exit->Act->World->Prop} {a:Act} {l:List Oper} (n:Nat) (hm:P.follows .mixedOrders=true) (hB:Region.lexTailB .any l.toArray n=true)
  (h:wpQuiet P l.toArray (fun w'=>∃ p:eD w,w'=p.w') (fun a'=>∀ w',(∃ p:eD w,w'=p.w')->wpList P l.toArray Q (l.drop n) a' w') (l.take n) a):(Code.region id l.toArray true).wp P Q a w:=
 qE (C:=fun w'=>∃ p:eD w,w'=p.w') n hm hB ⟨⟨w.drew,⟨rfl,rfl,rfl,ag _,fun _ _=>rfl⟩⟩,rfl⟩ h
open Go.RowKit
def xS (M:Mp) (n:Int):Mp:=if xQ M=true/\0<=n/\n<=1099511627776-M.ew then ⟨M.st,M.live,M.ew+n⟩ else M
def tt {M:Mp} (h:gJ M) (hs:∀ i,i<8->(M.st i).length<=10000):Fx.Small M.live/\0<=M.live/\M.live<=400000000:=by
 have h1:=qF hs;have h2:=qY (vp M);have h3:=h.lv;have:(vp M).length*4127<=80000*4127:=aX _ h1;unfold Fx.Small;rw[Fx.Oy];omega
variable {a:Int}
def zx (h1:-9007199254740991<=a) (h2:a<=9007199254740991):Fx.Small a:=by
 unfold Fx.Small;rw[Fx.Oy];omega
def Si {b c d:Int} (ha:Fx.Small a) (hb:Fx.Small b) (hc:Fx.Small c) (hd:Fx.Small d) (hac:Fx.Small (a+c)) (Lr:Fx.Small (b+d)) (t:TypeId) (W:World) :
  (binOp .add t (.complex .f64 (Fx.fb a) (Fx.fb b)) (.complex .f64 (Fx.fb c) (Fx.fb d))).run prog W=.ok (.complex .f64 (Fx.fb (a+c)) (Fx.fb (b+d))) W:=
 run_complex_sum W .add (.inl rfl) t .f64 _ _ _ _ _ _ (by
  unfold cSumBits floatBits
  show ((FloatKind.f64.format.add _ _).bind _)=_
  rw[show FloatKind.f64.format.add (Fx.fb a) (Fx.fb c)=some (Fx.fb (a+c)) from Fx.F2 a c ha hc hac,show FloatKind.f64.format.add (Fx.fb b) (Fx.fb d)=some (Fx.fb (b+d)) from Fx.F2 b d hb hd Lr]
  rfl)
def uN (s:Sl) (M:Mp) (n:Int) (w:World) (h:fN w s M.st) (hs:∀ i,i<8->(M.st i).length<=10000) :
  Calls prog 54 #[yD s M.live M.ew,.int .i64 n] w fun e w'=>(∃ s',e=.returned (yD s' (xS M n).live (xS M n).ew)/\fA w' w.heap.size s' (xS M n).st)/\Below w.heap.size w w':=by
 have HV:=zh (fun s W h=>uM s M W h (fun i hi=>ak (hs i hi) (by decide)));have eO:=zh ((eZ.new w s M.live M.ew 36).bb (zY (w.alloc (.cells (yl s M.live M.ew) 36)) Sl.nil 0 0 36));have sw:=zh (eZ.new (w.alloc (.cells (yl s M.live M.ew) 36)) Sl.nil 0 0 36);have eP:=zh (zA (zY w s M.live M.ew 36) (zY (w.alloc (.cells (yl s M.live M.ew) 36)) Sl.nil 0 0 36));rw[show (w.alloc (.cells (yl s M.live M.ew) 36)).heap.size=w.heap.size+1 by simp] at sw;have HC:=zh (fun W h=>kw s M.live M.ew M.st W h (fun i hi=>ak (hs i hi) (by decide)));have Hr:=zh h;have Ls:=zh (fun hv:xQ M=true=>(⟨tt ((zi M).1 hv) hs,((zi M).1 hv).g0,((zi M).1 hv).g1⟩:_/\_/\_));have HW:Hid (xS M n=if xQ M=true/\0<=n/\n<=1099511627776-M.ew then ⟨M.st,M.live,M.ew+n⟩ else M):=zh (rfl);clear h hs;generalize xQ M=vb at *;generalize xS M n=WM at *;obtain ⟨f,L,G⟩:=M
 dsimp only at *
 go_enter func54,ntmps54
 go_wp2_with fail;refine (HC.o _ (Hr.o.bb eP.o)).mono ?_;rintro e w1 ⟨⟨s1,rfl,hown1⟩,hb1⟩;have fG:=zh (eO.o.bb hb1);have pY:=zh (sw.o.bb hb1);have eV:=zh (zA eP.o hb1);have ja:=zh (hown1.mono (show w.heap.size+2<=_ by simp));obtain ⟨c0,c1,c2,c3,c4,c5,c6,c7,c8,c9⟩:=fG.o.q;have cF:=fG.o.f;clear hown1 hb1 HC eO sw eP;go_upto_region 2 with fail;change Code.wp _ _ _ _ (yN w1 w.heap.size s1 L G);obtain ⟨V,hV⟩:∃ V,yN w1 w.heap.size s1 L G=V:=⟨_,rfl⟩
 have DV:Hid (eZ V w.heap.size s1 L G):=zh (hV▸fG.o.all s1 L G);have Ks:Hid (eZ V (w.heap.size+1) Sl.nil 0 0):=zh (hV▸pY.o.oF (by omega) s1 L G);have nK:Hid (Below w.heap.size w V):=zh (hV▸zj eV.o (ag _) s1 L G);have Gb:Hid (fA V (w.heap.size+2) s1 f):=zh (hV▸ja.o.mO (by omega) s1 L G);rw[hV];clear hV c0 c1 c2 c3 c4 c5 c6 c7 c8 c9 cF fG pY eV ja;obtain ⟨c0,c1,c2,c3,c4,c5,c6,c7,c8,c9⟩:=DV.o.q;have cF:=DV.o.f;go_wp2_with fail;refine (HV.o s1 V Gb.o.rd).mono ?_;rintro e w2 ⟨rfl,hb2⟩;have fK:=zh (DV.o.bb hb2);have iQ:=zh (Ks.o.bb hb2);have eX:=zh (zA nK.o hb2);have gp:=zh (Gb.o.keep hb2);clear hb2 c0 c1 c2 c3 c4 c5 c6 c7 c8 c9 cF DV Ks nK Gb HV;obtain ⟨c0,c1,c2,c3,c4,c5,c6,c7,c8,c9⟩:=fK.o.q;have cF:=fK.o.f;obtain ⟨d0,d1,d2,d3,d4,d5,d6,d7,d8,d9⟩:=iQ.o.q;have dF:=iQ.o.f
 by_cases hok:vb=true/\0<=n/\n<=1099511627776-G
 ·rw[ah hok] at HW;obtain ⟨rfl,h1,h2⟩:=hok;obtain ⟨⟨Kt,Vs,OG⟩,Ku,Jk⟩:=Ls.o rfl;have g1:decide (n<0)=false:=by simp;omega
  have j1:IntKind.i64.wrap (1099511627776-G)=1099511627776-G:=aF _ (by omega);have g2:decide (1099511627776-G<n)=false:=by simp;omega
  have Lt:=zh (fun u:eD w2=>tV s1 L G u.w');have Nx:=zh (fun W=>U2 s1 L G L (G+n) Kt (zx (by omega) (by omega)) W);have hadd:=fun W=>Si (a:=L) (b:=G) (c:=0) (d:=n) Kt (zx (by omega) (by omega)) (zx (by omega) (by omega)) (zx (by omega) (by omega)) (by rw[Int.add_zero];exact Kt) (zx (by omega) (by omega)) 168 W
  have hz:Fx.fb 0=0:=rfl;rw[Int.add_zero,hz] at hadd;have hfn:floatOfInt .f64 n=Fx.fb n:=rfl;obtain ⟨e0,e1,e2,e3,e4,e5,e6,e7,e8,e9⟩:=fK.o.q;have eF:=fK.o.f;go_wp2_with fail;have f0:=zB e0;have f1:=zB e1;have f2:=zB e2;have f3:=zB e3;have f4:=zB e4;have f5:=zB e5;have f6:=zB e6;have f7:=zB e7;have f8:=zB e8;have f9:=zB e9;refine qN 7 (by kernel_rfl) (by kernel_rfl) ?_;simp only[dP,List.take_zero,List.drop_succ_cons,List.drop_zero]
  repeat (go_big_quiet_step (exact zH (Lt.o _)))
  refine ay ?_;intro _ hw';obtain ⟨u,hw'⟩:=hw';subst hw';have HYu:=zh (iQ.o.bb u.h);have Sj:=zh (zA eX.o u.h);have HOu:=zh (gp.o.keep u.h);generalize u.w'=w3 at *;clear c0 c1 c2 c3 c4 c5 c6 c7 c8 c9 cF d0 d1 d2 d3 d4 d5 d6 d7 d8 d9 dF e0 e1 e2 e3 e4 e5 e6 e7 e8 e9 eF f0 f1 f2 f3 f4 f5 f6 f7 f8 f9 hadd;go_wp2_with fail;refine (Nx.o _).mono ?_;rintro e w4 ⟨rfl,hb4⟩;have AI:=zh (HYu.o.bb hb4);have gq:=zh (zA Sj.o hb4);have iP:=zh (HOu.o.keep hb4);clear hb4;obtain ⟨d0,d1,d2,d3,d4,d5,d6,d7,d8,d9⟩:=AI.o.q;have dF:=AI.o.f;go_wp2_with fail;change bodyPost _ _ _ _ _ (yN w4 (w.heap.size+1) s1 L (G+n));have hby:=AI.o.all s1 L (G+n);have oH:=zh ((iP.o.mO (show w.heap.size+1<w.heap.size+2 by omega) s1 L (G+n)).mono (show w.heap.size<=w.heap.size+2 by omega));have eN:=zh (zj gq.o (Nat.le_succ _) s1 L (G+n))
  generalize yN w4 (w.heap.size+1) s1 L (G+n)=V2 at *;exact au (v:=yD s1 L (G+n)) (by simp[results,results54,go_sem,hby.q]) rfl ⟨⟨s1,by rw[HW.o],by rw[HW.o];exact oH.o⟩,eN.o⟩
 rw[ai hok] at HW
 cases vb
 ·clear hok;go_wp2_with fail;change bodyPost _ _ _ _ _ (yN w2 (w.heap.size+1) s1 L G);have hby:=iQ.o.all s1 L G;have oH:=zh ((gp.o.mO (show w.heap.size+1<w.heap.size+2 by omega) s1 L G).mono (show w.heap.size<=w.heap.size+2 by omega));have eN:=zh (zj eX.o (Nat.le_succ _) s1 L G);generalize yN w2 (w.heap.size+1) s1 L G=V2 at *;exact au (v:=yD s1 L G) (by simp[results,results54,go_sem,hby.q]) rfl ⟨⟨s1,by rw[HW.o],by rw[HW.o];exact oH.o⟩,eN.o⟩
 by_cases h1:n<0
 ·have g1:decide (n<0)=true:=by simpa using h1
  clear hok;go_wp2_with fail;change bodyPost _ _ _ _ _ (yN w2 (w.heap.size+1) s1 L G);have hby:=iQ.o.all s1 L G;have oH:=zh ((gp.o.mO (show w.heap.size+1<w.heap.size+2 by omega) s1 L G).mono (show w.heap.size<=w.heap.size+2 by omega));have eN:=zh (zj eX.o (Nat.le_succ _) s1 L G);generalize yN w2 (w.heap.size+1) s1 L G=V2 at *;exact au (v:=yD s1 L G) (by simp[results,results54,go_sem,hby.q]) rfl ⟨⟨s1,by rw[HW.o],by rw[HW.o];exact oH.o⟩,eN.o⟩
 have g1:decide (n<0)=false:=by simpa using h1
 obtain ⟨_,Ku,Jk⟩:=Ls.o rfl;have j1:IntKind.i64.wrap (1099511627776-G)=1099511627776-G:=aF _ (by omega);have g2:decide (1099511627776-G<n)=true:=by
  have:¬ n<=1099511627776-G:=fun e=>hok ⟨rfl,by omega,e⟩
  simp;omega
 clear hok;go_wp2_with fail;change bodyPost _ _ _ _ _ (yN w2 (w.heap.size+1) s1 L G);have hby:=iQ.o.all s1 L G;have oH:=zh ((gp.o.mO (show w.heap.size+1<w.heap.size+2 by omega) s1 L G).mono (show w.heap.size<=w.heap.size+2 by omega));have eN:=zh (zj eX.o (Nat.le_succ _) s1 L G);generalize yN w2 (w.heap.size+1) s1 L G=V2 at *;exact au (v:=yD s1 L G) (by simp[results,results54,go_sem,hby.q]) rfl ⟨⟨s1,by rw[HW.o],by rw[HW.o];exact oH.o⟩,eN.o⟩
variable {g:Nat}
def zEA {hb:Nat} {ca cb:Array Value} (hne:hb≠g) (ha:w.heap[hb]?=some (.cells ca 49 (0,0))) (hb':w.heap[g]?=some (.cells cb 49 (0,0))) (hn:cb.size≠0) (off:Nat) :
  ∀ la c lb d,(callFunc 179 #[.slice (some ⟨hb,0,none⟩) la c,.slice (some ⟨g,off,none⟩) lb d]).run prog w=.ok (.value (.bool false)) w:=fun la c lb d=>by
 rw[run_callFunc_extern func179 (by kernel_rfl) (by kernel_rfl) (by kernel_rfl) (e:=Extern.SlicesOverlaps.overlaps #[33,33] #[4]) (by kernel_rfl),
  Lib.run_overlaps_apart w 33 4 49 underlying33 4 (vE yO).2 ⟨hb,0,none⟩ ⟨g,off,none⟩ la c lb d hne 49 49 ca.size cb.size (by simp[World.shape?,ha]) (by simp[World.shape?,hb']) hn (by simp[World.frozen?,ha]) (by simp[World.frozen?,ha])]
 rfl
def kV (g n cap k:Nat) (hk:k+1<=n) (hc:k+1<cap) :
  ∀ W kl,(Instr.slice 33 (.slice (some ⟨g,0,none⟩) n cap) (some (.int kl ((k:Int)+1))) none none).run prog W=.ok (.slice (some ⟨g,(k+1)*4,none⟩) (n-(k+1)) (cap-(k+1))) W:=fun W kl=>by
 have:=qe (P:=prog) yO g n cap (k+1) hk hc W kl;rw[dO] at this;exact this
variable {B n cap:Nat} {xs:List Value}
def Vt (h:w.ownsRow B 49 4 (.slice (some ⟨g,0,none⟩) n cap) n xs) (k:Nat) (hk:k<=n) (hc:k<cap) :
  Rd w 4 (.slice (some ⟨g,k*4,none⟩) (n-k) (cap-k)) (n-k) (xs.drop (k*4)):=by
 have hx:=h.1;have:=Uk (zr h) k n hk (ag _);have hne:cap≠k:=by omega
 unfold sliced at this;rw[ai hne] at this;simp only[dN,yd,aN] at this;rw[aS (by rw[aT,hx,Nat.sub_mul];omega)] at this;exact this
def Vu (h:w.ownsRow B 49 4 (.slice (some ⟨g,0,none⟩) n cap) n xs):∃ cur,w.heap[g]?=some (.cells cur 49 (0,0))/\cur.size=cap*4/\n<=cap:=by
 rcases h.2 with ⟨h',_⟩|⟨g',c2,cur,h',hb,hg,hnc,hcm,hcs,lQ⟩
 ·cases h'
 injection h' with h' _ h'';injection h' with h';injection h' with h' _;subst h' h'';exact ⟨cur,hg,hcs,hnc⟩
def zMf (v:Value) (l:List It) (i:Nat) (x:It) (hb B:Nat) (w:World) (hown:fR w B v l) (hB:B<=w.heap.size) (hi:i<=l.length) (hs:l.length<=1000000)
  (hh:w.heap[hb]?=some (.cells (jk x).toArray 49 (0,0))) (hne:∀ k,v.ownBlock=some k->k≠hb) :
  Calls prog 142 #[v,.int .i64 (i:Int),.slice (some ⟨hb,0,none⟩) 1 1] w fun e w'=>∃ v',e=.returned v'/\fR w' B v' (l.take i++x::l.drop i)/\Below B w w':=by
 have Ai:Rd w 4 (.slice (some ⟨hb,0,none⟩) 1 1) 1 (jk x):=by
  refine ⟨rfl,some ⟨hb,0,none⟩,1,rfl,ag _,by unfold maxLen;omega,fun h=>(by cases h),fun _=>⟨hb,0,rfl,fun j u hj=>?_⟩⟩;have:w.cell? ⟨hb,0+j,none⟩=(jk x).toArray[0+j]?:=by simp[World.cell?,hh]
  rw[this,aN,List.getElem?_toArray];exact hj
 obtain ⟨oa,oc,rfl,ho1,ho2,Ae⟩:=zG hown;have hm:=C7 ho1 ho2;have iJ:Hid (w.ownsRow B 49 4 _ l.length (zg l)):=zh (hown);have Hv:=zh Ai;have Hh:=zh hh;have hl:=yR l;have A_:zg (l.take i++x::l.drop i)=(zg l).take (i*4)++jk x++(zg l).drop (i*4):=by
  rw[zy,tA,wS,tD,aY]
 have HF:=zh A_;have Dg:=zh (zv l);have Dh:=zh (show ∀ u∈jk x,u.oneCell'=true by rw[<- xj];exact zv [x]);have Cl:(jk x).length=4:=rfl;generalize hn:l.length=n at *;have HN:=zh hn;generalize zg l=xs at *;generalize jk x=c at *;have HL:=zh hl;have Ev:=zh Cl;clear hown Ai hh hn A_ hl Cl Ae
 by_cases hin:i=n
 ·subst hin;obtain ⟨x1,y1,g1,_,_⟩:=vO (P:=prog) yO (zr iJ.o) i (ag _);clear hne
  go_enter func142,ntmps142
  go_wp2_with (at_builtin;go_must (refine zP rfl (.tmp 23) (.tmp 24) 33 rfl yO B rfl iJ.o rfl Hv.o Dh.o (by unfold maxLen;omega) (by omega) hB ?_);intro v4 w4 fw gI hv4;clear hv4);go_ret;refine ⟨_,rfl,yW fw ?_,zK (aj _ _) iJ.o hB gI⟩;rw[HF.o,aS (by rw[HL.o];omega),cu (by rw[HL.o];omega),cz]
 obtain ⟨g,rfl⟩:∃ g,oa=some ⟨g,0,none⟩:=by
  rcases iJ.o.2 with ⟨e,h0⟩|⟨g,_,_,e,_⟩
  ·omega
  injection e with e;exact ⟨g,e⟩
 have hgh:g≠hb:=hne g rfl;have OU:((i:Int)==(n:Int))=false:=beq_eq_false_iff_ne.2 (by omega);have g1:=qe (P:=prog) yO g n oc i hi (by omega);clear hne
 by_cases hr:oc<n+1
 ·obtain ⟨w2,c2,ha,eM,hb2,hc2⟩:=zIm iJ.o i (n+1-i) hi (by omega) (by omega) (by omega);have ha:∀ ty,(Builtin.append_ #[33,3] ty #[.slice (some ⟨g,0,none⟩) i oc,.int .i64 ((n:Int)+1-(i:Int))]).run prog w=.ok (.slice (some ⟨w.heap.size,0,none⟩) (n+1) c2) w2:=fun ty=>by
   have:=ha ty;rw[show ((n+1-i:Nat):Int)=(n:Int)+1-(i:Int) by omega,show i+(n+1-i)=n+1 by omega] at this;exact this
  rw[show i+(n+1-i)=n+1 by omega] at eM;obtain ⟨_,_,_,Lu⟩:=Vu eM;have Gc:=xH (P:=prog) yO (a:=some ⟨g,0,none⟩) (n:=n) (cap:=oc) (fun x hx=>⟨g,0,by injection hx with hx;exact hx.symm⟩) i (by omega);have g2:=qe (P:=prog) yO w.heap.size (n+1) c2 i (by omega) (by omega);obtain ⟨w3,Lv,eB,eW⟩:=Sc (P:=prog) (sT:=33) yO eM (Hv.o.bb hb2) i (n+1-i) (c2-i) 1 (by simp[Nat.min_def];omega) (by decide) (by decide) (by omega) (fun u hu=>Dh.o u (cE hu));have hb3:Below w.heap.size w w3:=hb2.grown eW hb2.size (by intro r hr;injection hr with hr;omega);have g3:=kV w.heap.size (n+1) c2 i (by omega) (by omega)
  obtain ⟨w4,Lx,fw,gI⟩:=Sc (P:=prog) (sT:=33) yO eB.drew ((Vt iJ.o i hi (by omega)).bb hb3.drew) (i+1) (n-i) (c2-(i+1)) (n-i) (by simp) (by omega) (by decide) (by omega) (fun u hu=>Dg.o u (dA (cE hu)));have hb4:Below w.heap.size w w4:=hb3.drew.grown gI hb3.drew.size (by intro r hr;injection hr with hr;omega);have hgo:((oc:Int)<(n:Int)+1):=by omega
  have hw2:=zh (iJ.o.1);have Di:=zh fw;have gq:=zh hb4;clear hb2 hb3 hb4 eM eB fw eW gI Lu
  go_enter func142,ntmps142
  go_wp2_with (at_builtin;go_must (refine Lib.wpList_append_run _ rfl (.tmp 34) (.tmp 39) 33 3 rfl _ _ rfl rfl _ _ (ha _) ?_));have j1:IntKind.i64.wrap ((i:Int)+1)=(i:Int)+1:=aF _ (by omega);have j2:(0:Int)<=(i:Int)+1:=by omega
  have j3:(i:Int)+1<=(n:Int)+1:=by omega
  have j4:((i:Int)+1).toNat=i+1:=by omega
  have j5:(i:Int)<=(n:Int):=by omega
  go_region_held3 (fun _=>True) (trivial) (fail)
  go_wp2_with fail;go_ret;refine ⟨_,rfl,yW (Di.o.mono hB) ?_,gq.o.mono hB⟩;rw[HF.o];have hz:(zg (List.replicate (n+1-i) fZ)).length=(n+1-i)*4:=by rw[yR,dw]
  have hc1:c.take (1*4)=c:=aS (by rw[Ev.o];omega);have hx1:(xs.drop (i*4)).take ((n-i)*4)=xs.drop (i*4):=aS (by rw[aT,HL.o];omega);rw[hc1,hx1];exact zJf hi HL.o hz Ev.o
 obtain ⟨ys,hy,hown1⟩:=XV iJ.o 1 (by omega);have Gc:=xH (P:=prog) yO (a:=some ⟨g,0,none⟩) (n:=n) (cap:=oc) (fun x hx=>⟨g,0,by injection hx with hx;exact hx.symm⟩) (n+1) (by omega);simp only[dO] at Gc;rw[show ((1:Nat):Int)=1 from rfl] at Gc;have g2:=qe (P:=prog) yO g (n+1) oc i (by omega) (by omega);have g3:=kV g (n+1) oc i (by omega) (by omega);obtain ⟨cur,hg,hcs,_⟩:=Vu hown1;have Ci:=zEA (aQ hgh) Hh.o hg (by omega) ((i+1)*4)
 obtain ⟨w3,Lv,eB,eW⟩:=Sc (P:=prog) (sT:=33) yO hown1.drew (Vt hown1.drew i (by omega) (by omega)) (i+1) (n-i) (oc-(i+1)) (n-i) (by simp[Nat.min_def];omega) (by omega) (by decide) (by omega) (fun u hu=>Dg.o u (by
  rw[List.drop_append_of_le_length (by rw[HL.o];omega),dI (by rw[aT,HL.o];omega)] at hu
  exact dA hu))
 have hb3:Below B w w3:=((aj B w).drew).grown eW hB (by intro r hr;injection hr with hr;have:=(hown1.lt g rfl).1;omega);have hv3:=Rd.grown (Hv.o.drew) eW (fun y hy=>by injection hy with hy;subst hy;intro e;injection e with e;exact hgh e.symm);obtain ⟨w4,Lx,fw,gI⟩:=Sc (P:=prog) (sT:=33) yO eB hv3 i (n+1-i) (oc-i) 1 (by simp[Nat.min_def];omega) (by decide) (by decide) (by omega) (fun u hu=>Dh.o u (cE hu));have hb4:Below B w w4:=hb3.grown gI (ak hB hb3.size) (by intro r hr;injection hr with hr;have:=(hown1.lt g rfl).1;omega);have Di:=zh fw;have gq:=zh hb4;have HY:=zh hy;have hgo:¬ ((oc:Int)<(n:Int)+1):=by omega
 have j1:IntKind.i64.wrap ((i:Int)+1)=(i:Int)+1:=aF _ (by omega);have j2:(0:Int)<=(i:Int)+1:=by omega
 have j3:(i:Int)+1<=(n:Int)+1:=by omega
 have j4:((i:Int)+1).toNat=i+1:=by omega
 have j5:(i:Int)<=(n:Int):=by omega
 clear hb3 hb4 hown1 eB fw eW gI hv3 hy hcs hg
 go_enter func142,ntmps142
 go_wp2_with (simp only[Ci]);have j6:(i:Int)<=(n:Int)+1:=by omega
 go_region_held3 (fun _=>True) (trivial) (fail)
 go_wp2_with fail;go_ret;refine ⟨_,rfl,yW Di.o ?_,gq.o⟩;rw[HF.o];have hc1:c.take (1*4)=c:=aS (by rw[Ev.o];omega);rw[hc1];exact zIx hi HL.o (by rw[HY.o])
def zBa {P:Program} {ops:Array Oper} {o:Oper} {a:Act} {K:Act->World->Prop} {Q:Exit->Act->World->Prop} {E:Prop} (hgd:o.guard=none) (s x:Operand) (t tn:TypeId)
  (ho:o.op=.call {callee:=.builtin .append,args:=#[s,x],argTypes:=#[t,tn]}) (vs vx:Value) (hs:a.eval s=vs) (hx:a.eval x=vx)
  (v':Value) (w':World) (hr:(Builtin.append_ #[t,tn] o.type #[vs,vx]).run P w=.ok v' w') (h:K (a.put o.dst v') w') :
  if Region.wanted o (yielded ops a.tmps)=true then Oper.wp P o a w K Q else E:=by
 have hw:Region.wanted o (yielded ops a.tmps)=true:=by simp[Region.wanted,hgd]
 rw[ah hw];exact Lib.wp_append_run w s x t tn ho vs vx hs hx v' w' hr h
def zGm (h:w.ownsRow B 49 4 (.slice (some ⟨g,0,none⟩) n cap) n xs) (k:Nat) (hk:k+1<=n) :
  ∃ p c',(∀ W kl,(Instr.slice 33 (.slice (some ⟨g,0,none⟩) n cap) (some (.int kl ((k:Int)+1))) none none).run prog W=.ok (.slice (some p) (n-(k+1)) c') W) /\
   Rd w 4 (.slice (some p) (n-(k+1)) c') (n-(k+1)) (xs.drop ((k+1)*4)):=by
 obtain ⟨_,_,_,hnc⟩:=Vu h
 by_cases hq:k+1<cap
 ·exact ⟨_,_,kV g n cap k hk hq,Vt h (k+1) hk hq⟩
 obtain rfl:cap=k+1:=by omega
 obtain rfl:n=k+1:=by omega
 refine ⟨⟨g,0,none⟩,0,fun W kl=>?_,?_⟩
 ·obtain ⟨h1,h2⟩:=vE (P:=prog) yO;rw[run_slice_l W 33 (some ⟨g,0,none⟩) (k+1) (k+1) h1 kl ((k:Int)+1) (by omega) (by omega),h2];have:((k:Int)+1).toNat=k+1:=by omega
  simp[Result.andThen,sliced,this]
 have hx:=h.1;rw[cu (by omega),Nat.sub_self];exact ⟨rfl,some ⟨g,0,none⟩,0,rfl,ag _,aq _,fun h=>(by cases h),fun h=>absurd h (by simp)⟩
def zGc (g p cap:Nat) (hc:p+1<=cap) :
  ∀ W kl kh,(Instr.slice 33 (.slice (some ⟨g,0,none⟩) p cap) (some (.int kl (p:Int))) (some (.int kh ((p:Int)+1))) none).run prog W=.ok (.slice (some ⟨g,p*4,none⟩) 1 (cap-p)) W:=fun W kl kh=>by
 obtain ⟨h1,h2⟩:=vE (P:=prog) yO;rw[run_slice_lh W 33 (some ⟨g,0,none⟩) p cap h1 kl kh (p:Int) ((p:Int)+1) (by omega) (by omega) (by omega),h2];have h3:((p:Int)+1).toNat=p+1:=by omega
 have h4:cap≠p:=by omega
 simp[Result.andThen,sliced,h3,h4,yd]
def zFm (a:Option Addr) (n cap i:Nat) (hi:i+1<=n) (hn:n<=cap) :
  ∃ u,∀ W kl kh km,(Instr.slice 33 (.slice a n cap) (some (.int kl (i:Int))) (some (.int kh ((i:Int)+1))) (some (.int km (n:Int)))).run prog W=.ok u W:=by
 obtain ⟨h1,h2⟩:=vE (P:=prog) yO;refine ⟨sliced a (i:Int).toNat ((i:Int)+1).toNat (n:Int).toNat 4,fun W kl kh km=>?_⟩;rw[run_slice_lhm W 33 a n cap h1 kl kh km (i:Int) ((i:Int)+1) (n:Int) (by omega) (by omega) (by omega) (by omega),h2]
 rfl
def zLo (v:Value) (l:List It) (i B:Nat) (w:World) (hown:fR w B v l) (hB:B<=w.heap.size) (hi:i<l.length) (hs:l.length<=1000000) :
  Calls prog 137 #[v,.int .i64 (i:Int),.int .i64 ((i:Int)+1)] w fun e w'=>∃ v',e=.returned v'/\fR w' B v' (l.take i++l.drop (i+1))/\Below B w w':=by
 obtain ⟨oa,oc,rfl,ho1,ho2,Ae⟩:=zG hown;have A_:zg (l.take i++l.drop (i+1))=(zg l).take (i*4)++(zg l).drop ((i+1)*4):=by
  rw[zy,wS,tD]
 have HF:=zh A_;have Dg:=zh (zv l);have hl:=yR l;obtain ⟨p,hp⟩:∃ p,l.length=p+1:=⟨l.length-1,by omega⟩
 have hown':w.ownsRow B 49 4 _ l.length (zg l):=hown;clear hown;have hown:=hown';clear hown';have DW:(l.take i++l.drop (i+1)).length=p:=by rw[ax,aB,aT];omega
 rw[hp] at hown ho1 hl hs hi |-;generalize zg l=xs at *;obtain ⟨g,rfl⟩:∃ g,oa=some ⟨g,0,none⟩:=by
  rcases hown.2 with ⟨e,h0⟩|⟨g,_,_,e,_⟩
  ·omega
  injection e with e;exact ⟨g,e⟩
 have Gc:=xH (P:=prog) yO (a:=some ⟨g,0,none⟩) (n:=p+1) (cap:=oc) (fun x hx=>⟨g,0,by injection hx with hx;exact hx.symm⟩) i (by omega);obtain ⟨q,qc,g1,iH⟩:=zGm hown i hi;obtain ⟨w3,hap,eB,eW⟩:=zJs (vY hown i (by omega)).drew iH.drew (fun u hu=>Dg.o u (dA hu)) (by omega);have e1:i+(p+1-(i+1))=p:=by omega
 rw[e1] at hap eB;have hgB:=(hown.lt g rfl).1;have hb3:Below B w w3:=((aj B w).drew).grown eW hB (by intro r hr;injection hr with hr;omega);obtain ⟨ys,hy,fw⟩:=XV eB 1 (by omega);obtain ⟨w5,hcl,fW,iK⟩:=zJM fw p (by omega);have e2:p+1-p=1:=by omega
 rw[e2] at hcl;have hb5:Below B w w5:=hb3.grown iK (ak hB hb3.size) (by intro r hr;injection hr with hr;omega);obtain ⟨u3,g3⟩:=zFm (some ⟨g,0,none⟩) (p+1) oc i hi ho1;simp only[dO] at g3;rw[show ((1:Nat):Int)=1 from rfl] at g3;have g2:=zGc g p oc (by omega);have hl3:=eB.1;have iU:=vY fW p (by omega);rw[List.take_append_of_le_length (by rw[aB,ax,hl3];omega),List.take_take,Nat.min_self,dI hl3] at iU;have HR:=zh iU;have gW:=zh hb5;have FX:=zh DW;have OU:((i:Int)==(i:Int)+1)=false:=beq_eq_false_iff_ne.2 (by omega);have j1:IntKind.i64.wrap ((i:Int)+1)=(i:Int)+1:=aF _ (by omega);have hm:oc<=9223372036854775807:=by unfold maxLen at ho2;omega
 clear hown eB fw fW iU eW iK hb3 hb5 iH hl hl3 DW A_ Ae hp e1 e2 hy
 go_enter func137,ntmps137
 go_wp2_with fail;have j2:(0:Int)<=(i:Int)+1:=by omega
 have j3:(i:Int)+1<=(p:Int)+1:=by omega
 have j4:((i:Int)+1).toNat=i+1:=by omega
 have j5:(i:Int)<=(p:Int)+1:=by omega
 have j6:(i:Int)<=(oc:Int):=by omega
 go_region_held3 (fun _=>True) (trivial) (refine zBa rfl (.tmp 22) (.tmp 25) 33 33 rfl _ _ (by simp[Act.eval]) (by simp[Act.eval]) _ _ (hap _) ?_)
 go_wp2_with fail;go_ret;exact ⟨_,rfl,yW HR.o HF.o.symm,gW.o⟩
def zMo (v:Value) (l:List It) (x:It) (w:World) (h:lg w v l) (hk:ww l) (hs:l.length<=100000) :
  Calls prog 101 #[v,mg x] w fun e w'=>∃ v',e=.returned v'/\fR w' w.heap.size v' (ins (gu l) x)/\Below w.heap.size w w':=by
 have HS:=zh (fun w h=>hk v w h);have hlen:=xB l;have HA:=zh (vT l);have HF:=zh (fun v w h=>kT v (gu l) x.key w h (by omega));have Cm:=zh (fun v i hb B w h1 h2 h3=>zMf v (gu l) i x hb B w h1 h2 h3 (by omega));have iu:=zh (fun r (h:Place (gu l) x.key r)=>zNM h (vT l));have Hr:=zh h;obtain ⟨a,cap,rfl,_,_⟩:=h.shape;generalize gu l=s at *;generalize ins s x=res at *;obtain ⟨W0,hW0⟩:∃ W0,W0=w.alloc (.cells #[.int .u64 x.key,.int .u32 x.ck,.int .i64 x.off,.int .i64 x.size] 49):=⟨_,rfl⟩
 have hb0:Below w.heap.size w W0:=by rw[hW0];exact (aj _ _).alloc (ag _) _
 have eP:=zh hb0;have d0:W0.cell? ⟨w.heap.size,0,none⟩=some (.int .u64 x.key):=by rw[hW0];simp
 have d1:W0.cell? ⟨w.heap.size,1,none⟩=some (.int .u32 x.ck):=by rw[hW0];simp
 have d2:W0.cell? ⟨w.heap.size,2,none⟩=some (.int .i64 x.off):=by rw[hW0];simp
 have d3:W0.cell? ⟨w.heap.size,3,none⟩=some (.int .i64 x.size):=by rw[hW0];simp
 have Af:=zh hW0;have hs0:w.heap.size<=W0.heap.size:=hb0.size;clear h hk hW0 hb0
 go_enter func101,ntmps101
 go_wp2_with fail;rw[<- Af.o];refine (HS.o _ (Hr.o.bb eP.o)).mono ?_;rintro e w1 ⟨v1,rfl,hown1,hb1⟩;have HO:=zh hown1;have HB:=zh hb1;have e0:=Below.keeps hb1 _ _ d0;have e1:=Below.keeps hb1 _ _ d1;have e2:=Below.keeps hb1 _ _ d2;have e3:=Below.keeps hb1 _ _ d3;clear hown1 hb1 d0 d1 d2 d3;go_wp2_with fail;refine (HF.o _ _ HO.o.rd).mono ?_;rintro e w2 ⟨⟨r,hp,rfl⟩,hb2⟩;have eX:=zh (HB.o.trans (hb2.mono HB.o.size));have gp:=zh (zE HO.o hb2);have HP:=zh hp;have d0:=Below.keeps hb2 _ _ e0;have d1:=Below.keeps hb2 _ _ e1;have d2:=Below.keeps hb2 _ _ e2;have d3:=Below.keeps hb2 _ _ e3;clear hb2 hp e0 e1 e2 e3;have Ah:=zh (iu.o r HP.o);obtain ⟨oa,oc,rfl,ho1,ho2,Ae⟩:=zG gp.o;have hs2:W0.heap.size<=w2.heap.size:=eX.o.size
 by_cases hy:r<s.length/\(eA s r).key=x.key
 ·have HR:=zh (Ah.o.trans (ah hy));rw[aD hy];have hrl:=hy.1;obtain ⟨g,rfl⟩:∃ g,oa=some ⟨g,0,none⟩:=by
   rcases gp.o.2 with ⟨e,h0⟩|⟨g,_,_,e,_⟩
   ·omega
   injection e with e;exact ⟨g,e⟩
  have hgB:=(gp.o.lt g rfl).1;obtain ⟨_,_,e,c0,c1,c2,c3⟩:=(xF (zr gp.o)).at hrl;injection e with e;injection e with e1 e2;subst e1 e2;simp only[aN] at c0 c1 c2 c3;have f0:=gp.o.frozenAt (r*4);have f1:=gp.o.frozenAt (r*4+1);have f2:=gp.o.frozenAt (r*4+2);have f3:=gp.o.frozenAt (r*4+3);have jY:=zh (Uz gp.o r hrl x);clear hy;generalize eA s r=y at *;generalize hn:s.length=n at *;go_wp2_with fail;go_ret;refine ⟨_,rfl,?_,eP.o.trans (((((eX.o.setCell hgB _).setCell hgB _).setCell hgB _).setCell hgB _).mono hs0)⟩;rw[HR.o];exact (yW jY.o rfl).mono hs0
 have HR:=zh (Ah.o.trans (ai hy));rw[aC hy];clear hy;have hne:∀ k,(Value.slice oa s.length oc).ownBlock=some k->k≠w2.heap.size:=fun k hk=>by have:=(gp.o.lt k hk).2;omega
 have HC:=zh (Cm.o (.slice oa s.length oc) r w2.heap.size W0.heap.size (w2.alloc (.cells (jk x).toArray 49)) (gp.o.alloc _) (by simp;omega) HP.o.1 (heap_alloc_new w2 _) hne);have HBA:=zh (eX.o.alloc hs2 (.cells (jk x).toArray 49));clear hne;go_wp2_with fail;refine HC.o.mono ?_;rintro e w3 ⟨v3,rfl,eB,hb3⟩;have lD:=zh eB;have f_:=zh (HBA.o.trans hb3);clear eB hb3;go_wp2_with fail;go_ret;refine ⟨_,rfl,?_,eP.o.trans (f_.o.mono hs0)⟩;rw[HR.o];exact lD.o.mono hs0
def zKM (v:Value) (l:List It) (key:Int) (w:World) (h:lg w v l) (hk:ww l) (hs:l.length<=100000) :
  Calls prog 98 #[v,.int .u64 key] w fun e w'=>∃ v',e=.returned v'/\fR w' w.heap.size v' (iB (gu l) key)/\Below w.heap.size w w':=by
 have HS:=zh (hk v w h);have hlen:=xB l;have HF:=zh (fun v w h=>kT v (gu l) key w h (by omega));have HDe:=zh (fun v i B w h1 h2 h3=>zLo v (gu l) i B w h1 h2 h3 (by omega));have iu:=zh (fun r (h:Place (gu l) key r)=>zIO h (vT l));obtain ⟨a,cap,rfl,_,_⟩:=h.shape;generalize gu l=s at *;generalize iB s key=res at *;clear h hk
 go_enter func98,ntmps98
 go_wp2_with fail;refine HS.o.mono ?_;rintro e w1 ⟨v1,rfl,hown1,hb1⟩;have HO:=zh hown1;have HB:=zh hb1;clear hown1 hb1;go_wp2_with fail;refine (HF.o _ _ HO.o.rd).mono ?_;rintro e w2 ⟨⟨r,hp,rfl⟩,hb2⟩;have eX:=zh (zA HB.o hb2);have gp:=zh (zE HO.o hb2);have HP:=zh hp;clear hb2 hp;have Ah:=zh (iu.o r HP.o);have hs2:w.heap.size<=w2.heap.size:=eX.o.size
 by_cases hy:r<s.length/\(eA s r).key=key
 ·have HR:=zh (Ah.o.trans (ah hy));rw[aD hy];have hrl:=hy.1;have HC:=zh (HDe.o v1 r w.heap.size w2 gp.o hs2 hrl);clear hy;go_wp2_with fail;refine HC.o.mono ?_;rintro e w3 ⟨v3,rfl,eB,hb3⟩;have lD:=zh eB;have f_:=zh (eX.o.trans hb3);clear eB hb3;go_wp2_with fail;go_ret;refine ⟨_,rfl,?_,f_.o⟩;rw[HR.o];exact lD.o
 have HR:=zh (Ah.o.trans (ai hy));rw[aC hy];clear hy;go_wp2_with fail;go_ret;refine ⟨_,rfl,?_,eX.o⟩;rw[HR.o];exact gp.o
def xl (y:It):Nat:=eY y.size.toNat
def yX (M:Mp) (key:Int):Mp:=
 match zl M key with
 |none=>M
 |some y=>if M.ew+(xl y:Int)<=1099511627776 then ⟨fun i=>if i=zp key then iB (M.st i) key else M.st i,M.live-(xl y:Int),M.ew+(xl y:Int)⟩ else M
def qU (y:It) (hy:0<=y.size) (w:World):Calls prog 97 #[mg y] w fun e w'=>e=.returned (.int .i64 (xl y:Int))/\Below w.heap.size w w':=
 (WS y w).mono fun e w' ⟨⟨n,he,_,h⟩,hb⟩=>⟨by rw[he,h hy];rfl,hb⟩
def zKc {b:Int} (ha:Fx.Small a) (hb:Fx.Small b):(FloatKind.f64.format.order (Fx.fb a) (Fx.fb b)==some Ordering.gt)=decide (b<a):=by
 have h:FloatKind.f64.format.order (Fx.fb a) (Fx.fb b)=some (compare a b):=Fx.F3 a b ha hb;rw[h]
 show (some (compareOfLessAndEq a b)==some Ordering.gt)=_
 unfold compareOfLessAndEq
 by_cases h1:a<b
 ·rw[ah h1,aC (by omega)];rfl
 rw[ai h1]
 by_cases h2:a=b
 ·rw[ah h2,aC (by omega)];rfl
 rw[ai h2,aD (by omega)];rfl
def wG {M:Mp} {key:Int} {y:It} (h:zl M key=some y):xQ M=true/\y∈M.st (zp key)/\y.key=key/\0<=y.size:=by
 unfold zl at h
 split at h
 ·rename_i hv;obtain ⟨h1,h2⟩:=vC h;exact ⟨hv,h1,h2,Sb (((zi M).1 hv).ok _ (wy key)) y h1⟩
 cases h
def Sk (y:It):xl y<=4127:=wI _
def zBK (s:Sl) (M:Mp) (key:Int) (w:World) (h:fN w s M.st) (hs:∀ i,i<8->(M.st i).length<=10000) :
  Calls prog 55 #[yD s M.live M.ew,.int .u64 key] w fun e w'=>(∃ s',e=.returned (yD s' (yX M key).live (yX M key).ew)/\fA w' w.heap.size s' (yX M key).st)/\Below w.heap.size w w':=by
 have HG:=zh (fun s W h=>zF4 s M key W h hs);have eO:=zh ((eZ.new w s M.live M.ew 36).bb (zY (w.alloc (.cells (yl s M.live M.ew) 36)) Sl.nil 0 0 36));have sw:=zh (eZ.new (w.alloc (.cells (yl s M.live M.ew) 36)) Sl.nil 0 0 36);have eP:=zh (zA (zY w s M.live M.ew 36) (zY (w.alloc (.cells (yl s M.live M.ew) 36)) Sl.nil 0 0 36));rw[show (w.alloc (.cells (yl s M.live M.ew) 36)).heap.size=w.heap.size+1 by simp] at sw;have HC:=zh (fun W h=>kw s M.live M.ew M.st W h (fun i hi=>ak (hs i hi) (by decide)));have Hr:=zh h;have mh:=wy key;have HS:=zh (fun W=>td key W);have Fh:=zh (fun y (hy:zl M key=some y)=>(⟨tt ((zi M).1 (wG hy).1) hs,((zi M).1 (wG hy).1).g0,((zi M).1 (wG hy).1).g1,(wG hy).2.2.2,yb (uY (((zi M).1 (wG hy).1).ok _ mh))⟩:_/\_/\_/\_/\_))
 have CU:=zh (fun v W h=>zKM v (M.st (zp key)) key W h (wl _ (ak (hs _ mh) (by decide))) (ak (hs _ mh) (by decide)));have Af:Hid (zl M key=none->yX M key=M):=zh (fun h=>by unfold yX;rw[h]);have Gd:Hid (∀ y,zl M key=some y->M.ew+(xl y:Int)<=1099511627776->yX M key=⟨fun i=>if i=zp key then iB (M.st i) key else M.st i,M.live-(xl y:Int),M.ew+(xl y:Int)⟩):=zh (fun y h h2=>by unfold yX;rw[h];exact ah h2);have Dj:Hid (∀ y,zl M key=some y->¬ M.ew+(xl y:Int)<=1099511627776->yX M key=M):=zh (fun y h h2=>by unfold yX;rw[h];exact ai h2);clear h hs;generalize zl M key=o at *;generalize yX M key=WM at *;generalize zp key=k at *;obtain ⟨f,L,G⟩:=M;dsimp only at *
 go_enter func55,ntmps55
 go_wp2_with fail;refine (HC.o _ (Hr.o.bb eP.o)).mono ?_;rintro e w1 ⟨⟨s1,rfl,hown1⟩,hb1⟩;have fG:=zh (eO.o.bb hb1);have pY:=zh (sw.o.bb hb1);have eV:=zh (zA eP.o hb1);have ja:=zh (hown1.mono (show w.heap.size+2<=_ by simp));obtain ⟨c0,c1,c2,c3,c4,c5,c6,c7,c8,c9⟩:=fG.o.q;have cF:=fG.o.f;clear hown1 hb1 HC eO sw eP;go_upto_region 2 with fail;change Code.wp _ _ _ _ (yN w1 w.heap.size s1 L G);obtain ⟨V,hV⟩:∃ V,yN w1 w.heap.size s1 L G=V:=⟨_,rfl⟩
 have DV:Hid (eZ V w.heap.size s1 L G):=zh (hV▸fG.o.all s1 L G);have Ks:Hid (eZ V (w.heap.size+1) Sl.nil 0 0):=zh (hV▸pY.o.oF (by omega) s1 L G);have nK:Hid (Below w.heap.size w V):=zh (hV▸zj eV.o (ag _) s1 L G);have Gb:Hid (fA V (w.heap.size+2) s1 f):=zh (hV▸ja.o.mO (by omega) s1 L G);rw[hV];clear hV c0 c1 c2 c3 c4 c5 c6 c7 c8 c9 cF fG pY eV ja;obtain ⟨c0,c1,c2,c3,c4,c5,c6,c7,c8,c9⟩:=DV.o.q;have cF:=DV.o.f;go_wp2_with fail;refine (HS.o _).mono ?_;rintro e w2 ⟨rfl,rfl⟩;go_wp2_with fail;refine (HG.o s1 V Gb.o.rd).mono ?_;rintro e w2 ⟨rfl,hb2⟩;have fK:=zh ((DV.o.bb hb2).bb (yH w2 (o.getD fZ)));have iQ:=zh ((Ks.o.bb hb2).bb (yH w2 (o.getD fZ)));have eX:=zh (zA (zA nK.o hb2) (yH w2 (o.getD fZ)));have gp:=zh ((Gb.o.keep hb2).keep (yH w2 (o.getD fZ)));have ny:=zh (iL.new w2 (o.getD fZ))
 clear hb2 c0 c1 c2 c3 c4 c5 c6 c7 c8 c9 cF DV Ks nK Gb HG HS
 cases o with
 |none =>
  have HW:=zh (Af.o rfl);go_upto_region 5 with fail;obtain ⟨V3,Lz⟩:∃ V3,w2.alloc (xX fZ)=V3:=⟨_,rfl⟩
  rw[show w2.alloc (xX ((none:Option It).getD fZ))=V3 from Lz] at fK iQ eX gp;rw[Lz];clear Lz ny;obtain ⟨c0,c1,c2,c3,c4,c5,c6,c7,c8,c9⟩:=fK.o.q;have cF:=fK.o.f;obtain ⟨d0,d1,d2,d3,d4,d5,d6,d7,d8,d9⟩:=iQ.o.q;have dF:=iQ.o.f;go_wp2_with fail;change bodyPost _ _ _ _ _ (yN V3 (w.heap.size+1) s1 L G);have hby:=iQ.o.all s1 L G;have oH:=zh ((gp.o.mO (show w.heap.size+1<w.heap.size+2 by omega) s1 L G).mono (show w.heap.size<=w.heap.size+2 by omega));have eN:=zh (zj eX.o (show w.heap.size<=w.heap.size+1 by omega) s1 L G);generalize yN V3 (w.heap.size+1) s1 L G=V9 at *;exact au (v:=yD s1 L G) (by simp[results,results55,go_sem,hby.q]) rfl ⟨⟨_,by rw[HW.o],by rw[HW.o];exact oH.o⟩,eN.o⟩
 |some y =>
  obtain ⟨⟨Kt,Vs,OG⟩,Ku,Jk,hy0,hsk⟩:=Fh.o y rfl;have Ba:=zh hy0;have oD:=zh hsk;have LA:=zh (Gd.o y rfl);have LB:=zh (Dj.o y rfl);clear Fh Af Gd Dj hy0 hsk;go_upto_region 6 with fail;obtain ⟨V3,Lz⟩:∃ V3,w2.alloc (xX y)=V3:=⟨_,rfl⟩
  rw[show w2.alloc (xX ((some y).getD fZ))=V3 from Lz] at fK iQ eX gp ny;rw[show (some y).getD fZ=y from rfl] at ny;rw[Lz];clear Lz;have hlen:=Sk y;have Lt:=zh (fun u:eD V3=>tV s1 L G u.w');have jJ:=zh (fun u:eD V3=>qU y Ba.o u.w');have HTu:=zh (fun u:eD V3=>WT (xl y) (by omega) u.w');generalize xl y=n at *;have hadd:=fun W=>Si (a:=L) (b:=G) (c:=-(n:Int)) (d:=(n:Int)) Kt (zx (by omega) (by omega)) (zx (by omega) (by omega)) (zx (by omega) (by omega)) (zx (by omega) (by omega)) (zx (by omega) (by omega)) 168 W
  have hgt:=zKc (a:=G+(n:Int)) (b:=1099511627776) (zx (by omega) (by omega)) (zx (by omega) (by omega));rw[show Fx.fb 1099511627776=4787326403894837248 from rfl] at hgt;have Nx:=zh (fun s W=>U2 s L G (L+-(n:Int)) (G+(n:Int)) (zx (by omega) (by omega)) (zx (by omega) (by omega)) W);have e:L+-(n:Int)=L-(n:Int):=by omega
  rw[e] at hadd Nx;clear e;obtain ⟨c0,c1,c2,c3,c4,c5,c6,c7,c8,c9⟩:=fK.o.q;have cF:=fK.o.f;obtain ⟨i0,i1,i2,i3⟩:=ny.o.t.q;have iF:=ny.o.f;have f0:=zB c0;have f1:=zB c1;have f2:=zB c2;have f3:=zB c3;have f4:=zB c4;have f5:=zB c5;have f6:=zB c6;have f7:=zB c7;have f8:=zB c8;have f9:=zB c9;have k0:=zB i0;have k1:=zB i1;have k2:=zB i2;have k3:=zB i3;clear c0 c1 c2 c3 c4 c5 c6 c7 c8 c9 cF i0 i1 i2 i3 iF;refine zD (by kernel_rfl) (by kernel_rfl) ?_
  repeat (go_big_quiet_step ((first|exact zH (Lt.o _)|exact zH (jJ.o _)|exact zH (HTu.o _))))
  refine ay ?_;intro _ hw';obtain ⟨u,hw'⟩:=hw';subst hw';have i_:=zh (fK.o.bb u.h);have oG:=zh (iQ.o.bb u.h);have f_:=zh (zA eX.o u.h);have lD:=zh (gp.o.keep u.h);generalize u.w'=w3 at *;clear f0 f1 f2 f3 f4 f5 f6 f7 f8 f9 k0 k1 k2 k3 Lt jJ HTu hadd fK iQ eX gp ny
  by_cases hgo:G+(n:Int)<=1099511627776
  ·have HW:=zh (LA.o hgo);rw[aC (show ¬ (1099511627776<G+(n:Int)) by omega)] at hgt;have DU:s1.v k=.slice (s1.a k) (s1.n k) (s1.c k):=rfl;have ck:=i_.o.c k mh;have Ge:=zh (CU.o _ w3 (lD.o k mh).rd);rw[oD.o] at Ge;rw[DU] at ck Ge;clear DU;go_wp2_with fail;refine Ge.o.mono ?_;rintro e w4 ⟨v4,rfl,fw,hb4⟩;have jf:=zh (i_.o.bb hb4);have AI:=zh (oG.o.bb hb4);have gq:=zh (zA f_.o hb4);have iP:=zh (lD.o.keep hb4);have HN4:=zh (fw.mono (show w.heap.size+2<=w3.heap.size from oG.o.lt));obtain ⟨va,vc,hv4,_⟩:=zG fw;subst hv4;clear fw hb4 Ge ck i_ oG f_ lD;have ck:=jf.o.c k mh;have cf:=jf.o.f k;have DU:s1.v k=.slice (s1.a k) (s1.n k) (s1.c k):=rfl;rw[DU] at ck;generalize (iB (f k) key).length=dn at *;go_upto_region 10 with fail
   obtain ⟨V5,Fi⟩:∃ V5,w4.setCell ⟨w.heap.size,k,none⟩ (.slice va dn vc)=V5:=⟨_,rfl⟩
   have gj:Hid (eZ V5 w.heap.size (s1.set k va dn vc) L G):=zh (Fi▸jf.o.Jc mh va dn vc);have AK:Hid (eZ V5 (w.heap.size+1) Sl.nil 0 0):=zh (Fi▸AI.o.eR (p:=⟨w.heap.size,k,none⟩) (show w.heap.size≠w.heap.size+1 by omega) _);have gW:Hid (Below w.heap.size w V5):=zh (Fi▸gq.o.setCell (p:=⟨w.heap.size,k,none⟩) (ag _) _);have jA:Hid (fA V5 (w.heap.size+2) (s1.set k va dn vc) (fun i=>if i=k then iB (f k) key else f i)):=zh (Fi▸fA.set (fun i hi=>yJ (iP.o i hi) (p:=⟨w.heap.size,k,none⟩) (show w.heap.size<w.heap.size+2 by omega) _) (show fR _ _ _ (iB (f k) key) from yW (yJ HN4.o (p:=⟨w.heap.size,k,none⟩) (show w.heap.size<w.heap.size+2 by omega) _) rfl));rw[Fi];clear Fi ck cf DU jf AI gq iP HN4
   have hfe:(fun i=>if i=k then iB (f k) key else f i)=(fun i=>if i=k then iB (f i) key else f i):=funext fun i=>by
    by_cases e:i=k
    ·rw[ah e,ah e,e]
    rw[ai e,ai e]
   rw[hfe] at jA;clear hfe;generalize s1.set k va dn vc=s2 at *;obtain ⟨c0,c1,c2,c3,c4,c5,c6,c7,c8,c9⟩:=gj.o.q;have cF:=gj.o.f;go_wp2_with fail;refine (Nx.o s2 V5).mono ?_;rintro e w6 ⟨rfl,lX⟩;have jr:=zh (gj.o.bb lX);have AL:=zh (AK.o.bb lX);have jH:=zh (zA gW.o lX);have o7:=zh (jA.o.keep lX);clear lX c0 c1 c2 c3 c4 c5 c6 c7 c8 c9 cF;generalize L-(n:Int)=L2 at *;generalize G+(n:Int)=G2 at *;obtain ⟨c0,c1,c2,c3,c4,c5,c6,c7,c8,c9⟩:=jr.o.q;have cF:=jr.o.f;obtain ⟨d0,d1,d2,d3,d4,d5,d6,d7,d8,d9⟩:=AL.o.q;have dF:=AL.o.f;go_wp2_with fail;change bodyPost _ _ _ _ _ (yN w6 (w.heap.size+1) s2 L2 G2);have hby:=AL.o.all s2 L2 G2;have oH:=zh ((o7.o.mO (show w.heap.size+1<w.heap.size+2 by omega) s2 L2 G2).mono (show w.heap.size<=w.heap.size+2 by omega))
   have eN:=zh (zj jH.o (show w.heap.size<=w.heap.size+1 by omega) s2 L2 G2);generalize yN w6 (w.heap.size+1) s2 L2 G2=V9 at *;exact au (v:=yD s2 L2 G2) (by simp[results,results55,go_sem,hby.q]) rfl ⟨⟨_,by rw[HW.o],by rw[HW.o];exact oH.o⟩,eN.o⟩
  have HW:=zh (LB.o (by omega));rw[aD (show 1099511627776<G+(n:Int) by omega)] at hgt;obtain ⟨c0,c1,c2,c3,c4,c5,c6,c7,c8,c9⟩:=i_.o.q;have cF:=i_.o.f;obtain ⟨d0,d1,d2,d3,d4,d5,d6,d7,d8,d9⟩:=oG.o.q;have dF:=oG.o.f;go_wp2_with fail;change bodyPost _ _ _ _ _ (yN w3 (w.heap.size+1) s1 L G);have hby:=oG.o.all s1 L G;have oH:=zh ((lD.o.mO (show w.heap.size+1<w.heap.size+2 by omega) s1 L G).mono (show w.heap.size<=w.heap.size+2 by omega));have eN:=zh (zj f_.o (show w.heap.size<=w.heap.size+1 by omega) s1 L G);generalize yN w3 (w.heap.size+1) s1 L G=V9 at *;exact au (v:=yD s1 L G) (by simp[results,results55,go_sem,hby.q]) rfl ⟨⟨_,by rw[HW.o],by rw[HW.o];exact oH.o⟩,eN.o⟩
end Go.Proofs.YtcgfilmmokmdjaaGreat
