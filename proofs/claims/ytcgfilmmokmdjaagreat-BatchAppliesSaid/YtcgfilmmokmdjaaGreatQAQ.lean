import Derived.Test.YtcgfilmmokmdjaaGreatSkb
set_option linter.all false
set_option maxRecDepth 100000
set_option maxHeartbeats 32000000
namespace Go.Proofs.YtcgfilmmokmdjaaGreat
open Go.Proofs.Tryz
open Go.RowKit
def FB (w0:World) (p:fk×Int) (e:Ending) (w':World):Prop:=(∃ a n c L,e=.returned (.tuple #[zQ p.1.id p.1.lim p.1.ro a n c,.int .i64 p.2])/\iN w' w0.heap.size (.slice a n c) n L/\ey L=p.1.ep)/\Below w0.heap.size w0 w'
def iN.nil (w:World) (B:Nat):iN w B (.slice Option.none 0 0) 0 []:=⟨aP _ _ _ _,rfl,fun p hp=>by cases hp⟩
def FB.no {w0 w:World} {c:Int} (h:Below w0.heap.size w0 w):FB w0 (yq,c) (.returned (.tuple #[zQ 0 0 false Option.none 0 0,.int .i64 c])) w:=⟨⟨Option.none,0,0,[],rfl,iN.nil _ _,rfl⟩,h⟩
def zIX {s:fk} (hV:fg s) {k:Nat} (hk:k<s.ep.length) {y:Gn} (h:(fh s.ep k).num=y.num):t7 s.ep y=s.ep.set k y:=by
 have B_:∀ i j,i<j->j<s.ep.length->(fh s.ep i).num<(fh s.ep j).num:=by
  intro i j hij
  induction j with
  |zero=>omega
  |succ j ih =>
   intro hj;have h1:=(hV.g (j+1) hj).2.1 (by omega);rw[show j+1-1=j by omega] at h1
   by_cases e:i=j
   ·subst e;exact h1
   have:=ih (by omega) (by omega);omega
 refine List.ext_getElem? fun i=>?_
 unfold t7;rw[b_,dJ]
 by_cases hi:i<s.ep.length
 ·have eg:fh s.ep i=s.ep[i]:=by unfold fh;rw[aw,aA hi];rfl
  rw[aA hi,<- eg]
  by_cases e:k=i
  ·subst e;simp[h,hi]
  rw[ai e];have hne:(fh s.ep i).num≠y.num:=by
   rw[<- h];rcases Nat.lt_or_gt_of_ne e with h1|h1
   ·have:=B_ k i h1 hi;omega
   have:=B_ i k h1 hk;omega
  simp[hne]
 rw[List.getElem?_eq_none (by omega)]
 by_cases e:k=i
 ·omega
 rw[ai e];rfl
def zGg (g:Gn) (s:Sl) (w:World) (h:fN w s g.m.st) (hs:∀ i,i<8->(g.m.st i).length<=10000) :
  Calls prog 61 #[ze g.num g.rev g.mode g.size s g.m.live g.m.ew] w (NC w (wE g 1)):=by
 have HT:=zh (fun W (hb:Below w.heap.size w W)=>zLT g s 1 W (h.bb hb) hs);clear hs;generalize wE g 1=TG at *;obtain ⟨n,r,md,z,⟨f,L,G⟩⟩:=g;dsimp only at *;obtain ⟨W,hW,fJ,hbr,fS⟩:=vS w n r md z s L G 38;have HX:=zh fJ;have HR:=zh hbr;have HB:=zh fS;clear fJ hbr fS h
 go_enter func61,ntmps61
 go_upto_region 1 with fail;change Code.wp _ _ _ _ ((w.alloc (.cells (zU n r md z s L G) 38)).alloc (.cells (zU 0 0 0 0 Sl.nil 0 0) 38));rw[hW];clear hW;obtain ⟨x0,x1,x2,x3,x4,x5,x6,x7,x8,x9,gP,gQ,gK,gM⟩:=HX.o.q;go_wp2_with fail;refine (HT.o _ HB.o).mono ?_;rintro e w1 ⟨⟨t,rfl,hr⟩,hb⟩;have CZ:=zh (hr.mono (show w.heap.size+2<=W.heap.size by have:=HR.o.lt;omega));have fL:=zh (HR.o.bb hb);have eV:=zh (zA HB.o hb);have hlr:=HR.o.lt;clear x0 x1 x2 x3 x4 x5 x6 x7 x8 x9 gP gQ gK gM;clear hr HX HT HR HB;obtain ⟨er,⟨n',r',md',z',⟨f',L',G'⟩⟩⟩:=TG;dsimp only at *;obtain ⟨r0,r1,r2,r3,r4,r5,r6,r7,r8,r9,nL,mD,mR,pK⟩:=fL.o.q;have rf:=fL.o.f;go_wp2_with fail;change bodyPost _ _ _ _ _ (pts w1 (w.heap.size+1) (zS n' r' md' z' t L' G'));have hby:=fL.o.all n' r' md' z' t L' G'
 have eN:=zh (zC (B:=w.heap.size) (b:=(w.heap.size+1)) (by omega) (zS n' r' md' z' t L' G') eV.o);have iH:=(CZ.o.pts (show w.heap.size+1<w.heap.size+2 by omega) (zS n' r' md' z' t L' G')).mono (show w.heap.size<=w.heap.size+2 by omega);generalize pts w1 (w.heap.size+1) (zS n' r' md' z' t L' G')=V at *;exact au (v:=.tuple #[ze n' r' md' z' t L' G',.int .i64 er]) (by simp[results,results61,go_sem,hby.q]) rfl ⟨⟨_,rfl,iH⟩,eN.o⟩
def zMF (i l:Int) (r:Bool) (a:Option Addr) (n c:Nat) (L:List GP) (w:World) (h:fB w (.slice a n c) L) (hs:∀ p∈L,∀ j,j<8->(p.1.m.st j).length<=10000) (y:GP) (hy:fN w y.2 y.1.m.st) (sK:∀ j,j<8->(y.1.m.st j).length<=10000) (hv:zb ⟨i,l,r,ey L⟩=false) :
  Calls prog 14 #[zQ i l r a n c,ze y.1.num y.1.rev y.1.mode y.1.size y.2 y.1.m.live y.1.m.ew] w (FB w (yS ⟨i,l,r,ey L⟩ y.1)):=by
 have fV:=zh (fun W (hb:Below w.heap.size w W)=>yu i l r a n c L W (h.bb hb) hs);have HC:=zh (show yS ⟨i,l,r,ey L⟩ y.1=(yq,1) by unfold yS;rw[hv];rfl);rw[hv] at fV;clear h hs hv hy sK
 go_enter func14,ntmps14
 go_upto_region 1 with fail;change Code.wp _ _ _ _ (((w.alloc (.cells (zM i l r a n c) 27)).alloc (.cells (zU y.1.num y.1.rev y.1.mode y.1.size y.2 y.1.m.live y.1.m.ew) 38)).alloc (.cells (zM 0 0 false none 0 0) 27));obtain ⟨W,hW,fJ,hbg,hbr,fS⟩:=uE w i l r a n c y 27 38;rw[hW];have HX:=zh fJ;have HG:=zh hbg;have HR:=zh hbr;have HB:=zh fS;clear hW fJ hbg hbr fS;obtain ⟨k0,k1,k2,k3⟩:=HX.o.q;go_wp2_with fail;refine (fV.o _ HB.o).mono ?_;rintro e w1 ⟨rfl,hb⟩;replace HX:=zh (HX.o.bb hb);replace HR:=zh (HR.o.bb hb);replace HB:=zh (zA HB.o hb);clear hb;clear k0 k1 k2 k3;obtain ⟨z0,z1,z2,z3⟩:=HR.o.q;have zf:=HR.o.f;go_wp2_with fail;change bodyPost _ _ _ _ _ (pts w1 (w.heap.size+2) (zI 0 0 false none 0 0));have hby:=HR.o.all 0 0 false none 0 0
 have eN:=zh (zC (B:=w.heap.size) (b:=(w.heap.size+2)) (by omega) (zI 0 0 false none 0 0) HB.o);generalize pts w1 (w.heap.size+2) (zI 0 0 false none 0 0)=V at *;exact au (v:=.tuple #[zQ 0 0 false none 0 0,.int .i64 1]) (by simp[results,results14,go_sem,hby.c0,hby.c1,hby.c2,hby.c3]) rfl (by rw[HC.o];exact FB.no eN.o)
def zJu (i l:Int) (r:Bool) (a:Option Addr) (n c:Nat) (L:List GP) (w:World) (h:fB w (.slice a n c) L) (hs:∀ p∈L,∀ j,j<8->(p.1.m.st j).length<=10000) (y:GP) (hy:fN w y.2 y.1.m.st) (sK:∀ j,j<8->(y.1.m.st j).length<=10000) (hv:zb ⟨i,l,r,ey L⟩=true) :
  Calls prog 14 #[zQ i l r a n c,ze y.1.num y.1.rev y.1.mode y.1.size y.2 y.1.m.live y.1.m.ew] w (FB w (yS ⟨i,l,r,ey L⟩ y.1)):=by
 have fV:=zh (fun W (hb:Below w.heap.size w W)=>yu i l r a n c L W (h.bb hb) hs);have hV:=(zX _).1 hv;have fT:L.length=n:=by
  obtain ⟨_,_,e,_⟩:=h.shape;injection e with _ e _;exact e.symm
 have hl:(ey L).length=n:=by rw[zk,fT]
 have hn:1<=n/\n<=8:=by have:=hV.len;simp only[hl] at this;exact this
 have HC:=zh (show yS ⟨i,l,r,ey L⟩ y.1=(if tI L y.1.num n=true then (if zb ⟨i,l,r,t7 (ey L) y.1⟩=true then (⟨i,l,r,t7 (ey L) y.1⟩,0) else (yq,1)) else (yq,6)) by
  unfold yS;rw[ah hv,zCv L y.1.num n fT.symm])
 have Du:=zh (fun k (hk:k<n) (e:(pat L k).1.num=y.1.num)=>show t7 (ey L) y.1=(ey L).set k y.1 from zIX hV (k:=k) (by rw[hl];exact hk) (by rw[yj];exact e))
 have Xn:=zh (show ∀ k,k<n->(pat L k).1.num=y.1.num->tI L y.1.num n=true from fun k hk e=>by
  unfold tI
  rw[List.any_eq_true]
  refine ⟨pat L k,?_,by simp[e]⟩
  rw[aS (by omega)]
  exact yP (by omega))
 have JM:=zh (show (∀ j,j<L.length->(pat L j).1.num≠y.1.num)->tI L y.1.num n=false from fun hh=>by
  unfold tI
  rw[Bool.eq_false_iff]
  intro ht
  rw[List.any_eq_true] at ht
  obtain ⟨x,hx,e⟩:=ht
  obtain ⟨j,hj,rfl⟩:=cO (cE hx)
  have h1:=hh j hj
  unfold pat at h1
  rw[aw,aA hj] at h1
  exact h1 (aZ e))
 rw[hv] at fV;have j_:=zh h;have Fu:=zh hs;have lz:=zh hy;have Ef:=zh sK;have jJ:=zh fT;clear h hs hv hV fT hl hy sK;obtain ⟨⟨num,rev,md,sz,⟨fs,LV,GA⟩⟩,s⟩:=y;dsimp only at *
 go_enter func14,ntmps14
 go_upto_region 1 with fail;change Code.wp _ _ _ _ (((w.alloc (.cells (zM i l r a n c) 27)).alloc (.cells (zU num rev md sz s LV GA) 38)).alloc (.cells (zM 0 0 false none 0 0) 27));obtain ⟨W,hW,fJ,hbg,hbr,fS⟩:=uE w i l r a n c (⟨num,rev,md,sz,⟨fs,LV,GA⟩⟩,s) 27 38;rw[hW];have HX:=zh fJ;have HG:=zh hbg;have HR:=zh hbr;have HB:=zh fS;clear hW fJ hbg hbr fS;have hB0:w.heap.size+3<=W.heap.size:=by have:=HR.o.lt;omega
 dsimp only at HG;obtain ⟨k0,k1,k2,k3⟩:=HX.o.q;go_wp2_with fail;refine (fV.o _ HB.o).mono ?_;rintro e w1 ⟨rfl,hb⟩;replace HX:=zh (HX.o.bb hb);replace HG:=zh (HG.o.bb hb);replace HR:=zh (HR.o.bb hb);replace HB:=zh (zA HB.o hb);have hB1:=ak hB0 hb.size;clear hb fV;clear k0 k1 k2 k3;have P6:=zh (zGr a n c L (w.heap.size+1) num rev md sz s LV GA w1 (j_.o.bb HB.o) (by omega) HG.o);have k3:=HX.o.c3;go_wp2_with fail;refine P6.o.mono ?_;rintro e w2 ⟨⟨z,rfl,hF⟩,hb⟩;replace HX:=zh (HX.o.bb hb);replace HG:=zh (HG.o.bb hb);replace HR:=zh (HR.o.bb hb);replace HB:=zh (zA HB.o hb);have hB2:=ak hB1 hb.size;clear hb k3 P6;rcases hF with ⟨k,hk,rfl,hkn,_⟩|⟨rfl,hF⟩
 ·have hk':k<n:=by rw[<- jJ.o];exact hk
  have C8:=zh (HC.o.trans (ah (Xn.o k hk' hkn)));have hpf:=Du.o k hk' hkn;rw[hpf] at C8;clear HC Xn JM Du hpf hk hkn;have i1:¬ (k:Int)<0:=by omega
  obtain ⟨k0,k1,k2,k3⟩:=HX.o.q;go_wp2_with fail;refine (zB3 i l r a n c L w2 (j_.o.bb HB.o) Fu.o (by omega)).mono ?_;rintro e w3 hq;obtain ⟨⟨a1,c1,M,rfl,ho,hg⟩,hb⟩:=hq;have rU:=zh (ho.lower hB2);have iZ:=zh hg;clear k0 k1 k2 k3 ho hg;replace HX:=zh (HX.o.bb hb);replace HG:=zh (HG.o.bb hb);replace HR:=zh (HR.o.bb hb);replace HB:=zh (zA HB.o hb);have Fj:=ak hB2 hb.size;clear hb;obtain ⟨k0,k1,k2,k3⟩:=HX.o.q;have kf:=HX.o.f;go_upto_region 7 with fail;clear k0 k1 k2 k3 kf;obtain ⟨g,rfl,hgB,rV⟩:=uB rU.o.row (by omega);have jf:=zh (HX.o.all i l r (some ⟨g,0,none⟩) n c1);have Fl:=zh (HG.o.eL (c:=w.heap.size) (by omega) (zI i l r (some ⟨g,0,none⟩) n c1));have lB:=zh (HR.o.eL (d:=w.heap.size) (by omega) (zI i l r (some ⟨g,0,none⟩) n c1))
  have gq:=zh (zC (B:=w.heap.size) (b:=w.heap.size) (ag _) (zI i l r (some ⟨g,0,none⟩) n c1) HB.o);have iP:=zh (rU.o.pts (b:=w.heap.size) (by omega) (zI i l r (some ⟨g,0,none⟩) n c1));have AB:w.heap.size+3<=(pts w3 w.heap.size (zI i l r (some ⟨g,0,none⟩) n c1)).heap.size:=by rw[wh];exact Fj
  clear HX HG HR HB rU;change Code.wp _ _ _ _ (pts w3 w.heap.size (zI i l r (some ⟨g,0,none⟩) n c1));generalize pts w3 w.heap.size (zI i l r (some ⟨g,0,none⟩) n c1)=w4 at *;have IQ:=zh (fun W (hb:Below w4.heap.size w4 W)=>kS ⟨num,rev,md,sz,⟨fs,LV,GA⟩⟩ s W (lz.o.bb (zA gq.o hb)) Ef.o);dsimp only at IQ;refine xD [eT (.pointer (some ⟨w.heap.size,3,none⟩)),eT (.slice (some ⟨g,0,none⟩) n c1),eT (.int .i64 (k:Int)),eT (ze num rev md sz s LV GA),zNl (w.heap.size+3) ⟨num,rev,md,sz,⟨fs,LV,GA⟩⟩] [] 31 (by kernel_rfl) (by kernel_rfl) (by rfl) (by kernel_rfl) (fun f=>by simp[fU,zW,Act.put];exact rfl) ?_ ?_
  ·refine ⟨?_,?_,?_,?_,?_,trivial⟩
   ·intro f w1 hb hd;clear hd;dsimp only;go_wp2_with fail;exact pS rfl (by simp)
   ·intro f w1 hb hd;have d0:f 0=_:=hd 0 (by kernel_rfl);clear hd;dsimp only;rw[d0];have q3:=(jf.o.bb hb).c3;go_wp2_with fail;exact pS rfl (by simp)
   ·intro f w1 hb hd;clear hd;dsimp only;go_wp2_with fail;exact pS rfl (by simp)
   ·intro f w1 hb hd;clear hd;dsimp only;have zo:=Fl.o.bb hb;obtain ⟨q0,q1,q2,q3,q4,q5,q6,q7,q8,q9,w_,y_,z_,Aa⟩:=zo.q;clear zo;go_wp2_with fail;exact pS rfl (by simp)
   intro f w1 hb hd;have d3:f 3=_:=hd 3 (by kernel_rfl);clear hd;dsimp only;rw[d3];go_wp2_with fail;refine (IQ.o w1 hb).mono ?_;rintro e w9 ⟨⟨s9,rfl,sZ⟩,gy⟩;have jl:=zh (sZ.mono (ak AB hb.size));clear sZ;go_wp2_with fail;exact pRg gy ⟨s9,rfl,jl.o⟩ (by simp)
  intro f w5 hb hd iX;clear iX;have d1:f 1=_:=hd 1 (by simp);have d2:f 2=_:=hd 2 (by simp);obtain ⟨s4,d4,KO⟩:=hd 4 (by simp);clear hd
  try dsimp only
  rw[d1,d2,d4];clear d1 d2 d4;generalize f 0=z0;generalize f 3=z3;clear f;have JN:=iP.o.keep hb;have Xi:=zh ((PJ JN.row JN.len hk').there (xu JN.row));have jA:=zh (JN.set k hk' ((⟨num,rev,md,sz,⟨fs,LV,GA⟩⟩:Gn),s4) KO);dsimp only at jA;have gj:=zh ((jf.o.bb hb).eL (d:=g) (by omega) (t_ (k*14) num rev md sz s4 LV GA));have jN:=zh ((lB.o.bb hb).eL (d:=g) (by omega) (t_ (k*14) num rev md sz s4 LV GA));have gW:=zh (zC (B:=w.heap.size) (b:=g) (by omega) (t_ (k*14) num rev md sz s4 LV GA) (zA gq.o hb));have KC:Hid (ey (M.set k ((⟨num,rev,md,sz,⟨fs,LV,GA⟩⟩:Gn),s4))=(ey L).set k (⟨num,rev,md,sz,⟨fs,LV,GA⟩⟩:Gn)):=zh (by rw[Xh,iZ.o])
  have HLs:=zh (show ∀ p∈M.set k ((⟨num,rev,md,sz,⟨fs,LV,GA⟩⟩:Gn),s4),∀ j,j<8->(p.1.m.st j).length<=10000 from fun p hp j hj=>by
   rcases List.mem_or_eq_of_mem_set hp with hp|rfl
   ·have h1:p.1∈ey L:=iZ.o▸cB hp
    obtain ⟨q,hq,e⟩:=List.mem_map.1 h1
    rw[<- e];exact Fu.o q hq j hj
   exact Ef.o j hj)
  clear JN KO hb IQ jf Fl lB gq iP iZ;change wpList _ _ _ (_::_::[]) _ _;go_wp2_with (first|((with_reducible refine wpList_store_mid ?_ 38 (.tmp 25) (.tmp 24) ?_ g (k*14) (zU num rev md sz s4 LV GA) ?_ ?_ ?_ ?_ ?_ ?_);rfl;rfl;rfl;rfl;exact Xi.o;exact WX;exact qP _ _ _ _ _ _ _;rw[qJ];generalize (pts w5 g (t_ (k*14) num rev md sz s4 LV GA))=w6 at *;have k0:=gj.o.c0;have k1:=gj.o.c1;have k2:=gj.o.c2;have k3:=gj.o.c3));refine (yu i l r (some ⟨g,0,none⟩) n c1 _ w6 jA.o.rd HLs.o).mono ?_;rintro e w7 ⟨rfl,hb⟩;rw[KC.o];replace gj:=zh (gj.o.bb hb);replace jN:=zh (jN.o.bb hb);replace gW:=zh (zA gW.o hb);replace jA:=zh (jA.o.keep hb);clear hb k0 k1 k2 k3 HLs;generalize FA:zb ⟨i,l,r,(ey L).set k (⟨num,rev,md,sz,⟨fs,LV,GA⟩⟩:Gn)⟩=bv at *
  cases bv
  ·have HC:=zh (C8.o.trans (ai (by decide)));clear C8 FA;obtain ⟨z0,z1,z2,z3⟩:=jN.o.q;have zf:=jN.o.f;go_wp2_with fail;change bodyPost _ _ _ _ _ (pts w7 (w.heap.size+2) (zI 0 0 false none 0 0));have hby:=jN.o.all 0 0 false none 0 0;have eN:=zh (zC (B:=w.heap.size) (b:=(w.heap.size+2)) (by omega) (zI 0 0 false none 0 0) gW.o);generalize pts w7 (w.heap.size+2) (zI 0 0 false none 0 0)=V at *;exact au (v:=.tuple #[zQ 0 0 false none 0 0,.int .i64 1]) (by simp[results,results14,go_sem,hby.c0,hby.c1,hby.c2,hby.c3]) rfl (by rw[HC.o];exact FB.no eN.o)
  have HC:=zh (C8.o.trans (ah rfl));clear C8 FA;obtain ⟨k0,k1,k2,k3⟩:=gj.o.q;obtain ⟨z0,z1,z2,z3⟩:=jN.o.q;have zf:=jN.o.f;go_wp2_with fail;change bodyPost _ _ _ _ _ (pts w7 (w.heap.size+2) (zI i l r (some ⟨g,0,none⟩) n c1));have Cq:=zh (jA.o.pts (b:=w.heap.size+2) (by omega) (zI i l r (some ⟨g,0,none⟩) n c1));have hby:=jN.o.all i l r (some ⟨g,0,none⟩) n c1;have eN:=zh (zC (B:=w.heap.size) (b:=(w.heap.size+2)) (by omega) (zI i l r (some ⟨g,0,none⟩) n c1) gW.o);generalize pts w7 (w.heap.size+2) (zI i l r (some ⟨g,0,none⟩) n c1)=V at *;exact au (v:=.tuple #[zQ i l r (some ⟨g,0,none⟩) n c1,.int .i64 0]) (by simp[results,results14,go_sem,hby.c0,hby.c1,hby.c2,hby.c3]) rfl (by rw[HC.o];exact ⟨⟨_,n,c1,_,rfl,Cq.o.lower (by omega),KC.o⟩,eN.o⟩)
 have C8:=zh (HC.o.trans (ai (by rw[JM.o hF];decide)));clear HC Xn JM Du hF;obtain ⟨z0,z1,z2,z3⟩:=HR.o.q;have zf:=HR.o.f;go_wp2_with fail;change bodyPost _ _ _ _ _ (pts w2 (w.heap.size+2) (zI 0 0 false none 0 0));have hby:=HR.o.all 0 0 false none 0 0;have eN:=zh (zC (B:=w.heap.size) (b:=(w.heap.size+2)) (by omega) (zI 0 0 false none 0 0) HB.o);generalize pts w2 (w.heap.size+2) (zI 0 0 false none 0 0)=V at *;exact au (v:=.tuple #[zQ 0 0 false none 0 0,.int .i64 6]) (by simp[results,results14,go_sem,hby.c0,hby.c1,hby.c2,hby.c3]) rfl (by rw[C8.o];exact FB.no eN.o)
def zFO (i l:Int) (r:Bool) (a:Option Addr) (n c:Nat) (L:List GP) (w:World) (h:fB w (.slice a n c) L) (hs:∀ p∈L,∀ j,j<8->(p.1.m.st j).length<=10000) (y:GP) (hy:fN w y.2 y.1.m.st) (sK:∀ j,j<8->(y.1.m.st j).length<=10000):Calls prog 14 #[zQ i l r a n c,ze y.1.num y.1.rev y.1.mode y.1.size y.2 y.1.m.live y.1.m.ew] w (FB w (yS ⟨i,l,r,ey L⟩ y.1)):=by
 cases hv:zb ⟨i,l,r,ey L⟩
 ·exact zMF i l r a n c L w h hs y hy sK hv
 exact zJu i l r a n c L w h hs y hy sK hv
def zMB:wQ prog 233 3 1 8:=by
 obtain ⟨i,hi,hz,hs,hb⟩:=cq (P:=prog) (e:=3) (z:=.int .i64 0) (size:=1) (bytes:=8) (by kernel_rfl);exact ⟨underlying233,by decide,i,_,hi,hz,hs,hb,rfl⟩
def qQ (z:Int):Value:=.int .i64 z
def gY (w:World) (B:Nat) (v:Value) (l:List Int):Prop:=w.ownsRow B 3 1 v l.length (l.map qQ)
def gY.nil (w:World) (B:Nat):gY w B (.slice none 0 0) []:=aP w B 3 1
def Xo (l:List Gn) (key:Int):∀ n,(uS l key n).length<=n
 |0=>aq _
 |n+1=>by
  have:=Xo l key n;unfold uS;rw[ax]
  cases zl (fh l n).m key<;>simp<;>omega
def zJW (i l:Int) (r:Bool) (a:Option Addr) (n c:Nat) (L:List GP) (w:World) (h:fB w (.slice a n c) L) (hs:∀ p∈L,∀ j,j<8->(p.1.m.st j).length<=10000) (hv:zb ⟨i,l,r,ey L⟩=false) (key:Int) :
  Calls prog 156 #[zQ i l r a n c,.int .u64 key] w fun e w'=>∃ v',e=.returned v'/\gY w' w.heap.size v' (zd ⟨i,l,r,ey L⟩ key)/\Below w.heap.size w w':=by
 have fV:=zh (fun W (hb:Below w.heap.size w W)=>zt i l r a n c L W (h.bb hb) hs);rw[hv] at fV;have HF:=zh (show zd ⟨i,l,r,ey L⟩ key=[] by unfold zd;rw[hv];rfl);have hcap:n<=9223372036854775807:=by
  show n<=maxLen
  obtain ⟨_,_,e,h1,h2⟩:=h.shape;injection e with _ e _;rw[e];exact ak h1 h2
 have eO:=zh (fp.new w i l r a n c 31);have eP:=zh (zR w i l r a n c 31);clear h hs hv
 go_enter func156,ntmps156
 go_upto_region 1 with fail;obtain ⟨W,hW⟩:∃ W,w.alloc (.cells (zM i l r a n c) 31)=W:=⟨_,rfl⟩
 change Code.wp _ _ _ _ (w.alloc (.cells (zM i l r a n c) 31));rw[hW] at eO eP |-;clear hW;obtain ⟨k0,k1,k2,k3⟩:=eO.o.q
 by_cases h1:1<n
 ·have i1:(1:Int)<(n:Int):=by omega
  go_wp2_with fail
  go_loopw [5,6] (fun ov iv V=>ov=.slice none 0 0/\iv=.int .i64 0/\V=W) (fun _ _ _=>0)
  case atStart=>exact ⟨rfl,rfl,rfl⟩
  obtain ⟨rfl,rfl,rfl⟩:=hrel;go_wp2_with fail;refine (fV.o _ eP.o).mono ?_;rintro e w1 ⟨rfl,hb1⟩;have eV:=zh (zA eP.o hb1);clear k0 k1 k2 k3 hb1;go_wp2_with fail;go_ret;exact ⟨_,rfl,by rw[HF.o];exact gY.nil _ _,eV.o⟩
 have i1:¬ (1:Int)<(n:Int):=by omega
 go_wp2_with fail
 go_loopw [5,6] (fun ov iv V=>ov=.slice none 0 0/\iv=.int .i64 0/\V=W) (fun _ _ _=>0)
 case atStart=>exact ⟨rfl,rfl,rfl⟩
 obtain ⟨rfl,rfl,rfl⟩:=hrel;go_wp2_with fail;go_ret;exact ⟨_,rfl,by rw[HF.o];exact gY.nil _ _,eP.o⟩
def zG4 (i l:Int) (r:Bool) (a:Option Addr) (n c:Nat) (L:List GP) (w:World) (h:fB w (.slice a n c) L) (hs:∀ p∈L,∀ j,j<8->(p.1.m.st j).length<=10000) (hv:zb ⟨i,l,r,ey L⟩=true) (key:Int) :
  Calls prog 156 #[zQ i l r a n c,.int .u64 key] w fun e w'=>∃ v',e=.returned v'/\gY w' w.heap.size v' (zd ⟨i,l,r,ey L⟩ key)/\Below w.heap.size w w':=by
 have fV:=zh (fun W (hb:Below w.heap.size w W)=>zt i l r a n c L W (h.bb hb) hs);rw[hv] at fV;have fT:L.length=n:=by
  obtain ⟨_,_,e,_⟩:=h.shape;injection e with _ e _;exact e.symm
 have hV:=(zX _).1 hv;have hn:1<=n/\n<=8:=by have:=hV.len;simp only[zk,fT] at this;exact this
 obtain ⟨m,rfl⟩:∃ m,n=m+1:=⟨n-1,by omega⟩
 have HF:=zh (show zd ⟨i,l,r,ey L⟩ key=uS (ey L) key m by
  unfold zd;rw[hv,ah rfl];show uS (ey L) key ((ey L).length-1)=_;rw[zk,fT];rfl)
 have HR:=zh h;have IU:Hid (∀ k,k<m+1->pat L k∈L):=zh (fun k hk=>yP (by omega));have Fu:=zh hs;have P9:Hid (∀ k,uS (ey L) key (k+1)=uS (ey L) key k++(match zl (pat L k).1.m key with|some _=>[(pat L k).1.num]|none=>[])):=zh (fun k=>by rw[<- yj];rfl);have HOL:=zh (fun k=>Xo (ey L) key k);have eO:=zh (fp.new w i l r a (m+1) c 31);have eP:=zh (zR w i l r a (m+1) c 31);clear h hs hv hV fT
 go_enter func156,ntmps156
 go_upto_region 1 with fail;obtain ⟨W,hW⟩:∃ W,w.alloc (.cells (zM i l r a (m+1) c) 31)=W:=⟨_,rfl⟩
 change Code.wp _ _ _ _ (w.alloc (.cells (zM i l r a (m+1) c) 31));rw[hW] at eO eP |-;clear hW;go_wp2_with fail
 go_loopw [5,6] (fun ov iv V=>∃ k:Nat,iv=.int .i64 (k:Int)/\k<=m/\Hid (gY V W.heap.size ov (uS (ey L) key k))/\Hid (Below W.heap.size W V)) (fun _ iv _=>m-(intOf iv).toNat)
 case atStart=>exact ⟨0,rfl,aq _,zh (gY.nil _ _),zh (aj _ _)⟩
 obtain ⟨k,rfl,hk,HO,HB⟩:=hrel;have oO:=zh (zA eP.o HB.o);have hx:=eO.o.bb HB.o;obtain ⟨k0,k1,k2,k3⟩:=hx.q;clear hx
 by_cases hlk:k<m
 ·as_aux_lemma =>
  have i1:(k:Int)+1<((m+1:Nat):Int):=by omega
  have i2:(k:Int)+1<(m:Int)+1:=by omega
  have i3:k+1<m+1:=by omega
  go_wp2_with fail;refine (fV.o _ oO.o).mono ?_;rintro e w1 ⟨rfl,hb1⟩;have eV:=zh (HB.o.trans (hb1.mono HB.o.size));have ja:Hid (gY w1 W.heap.size _ _):=zh (zE HO.o hb1);clear k0 k1 k2 k3 hb1 HO HB oO;have nK:=zh (zA eP.o eV.o);have k3:=(eO.o.bb eV.o).c3;have hR:=HR.o.bb nK.o;obtain ⟨b,off,rfl,hg⟩:=hR.at (show k<m+1 by omega);have rG:=zh hg;have lz:=zh (hR.m _ (IU.o k (by omega)));have oD:=zh (Fu.o _ (IU.o k (by omega)));have hon:=P9.o k;have hol:=HOL.o k;clear hR hg;generalize Tf:uS (ey L) key k=OK at *;generalize P_:uS (ey L) key (k+1)=Xp at *;have Qa:=zh P_;clear P_;generalize pat L k=p at *;obtain ⟨⟨num,rev,md,sz,⟨f,LV,GA⟩⟩,s⟩:=p;dsimp only at *;have Cj:=zh (qt s ⟨f,LV,GA⟩ key w1 lz.o oD.o);clear lz oD Tf
  obtain ⟨g0,g1,g2,g3,g4,g5,g6,g7,g8,g9,g10,g11,g12,g13⟩:=rG.o.q;dsimp only at g0 g1 g2 g3 g4 g5 g6 g7 g8 g9 g10 g11 g12 g13;have i4:(k:Int)<((m+1:Nat):Int):=by omega
  have i5:k<m+1:=by omega
  cases C2:zl ⟨f,LV,GA⟩ key with
  |none =>
   rw[C2] at Cj hon;have pX:=zh (show Xp=OK by rw[hon];exact cz _);clear C2 hon;have KQ:Hid (Calls prog 124 #[yD s LV GA,.int .u64 key] w1 fun e w'=>e=.returned (.tuple #[.agg #[.int .u64 0,.int .u32 0,.int .i64 0,.int .i64 0],.bool false])/\Below w1.heap.size w1 w'):=zh (Cj.o);clear Cj;go_wp2_with fail;refine KQ.o.mono ?_;rintro e w2 ⟨rfl,hb2⟩;have hA:=(aj w2.heap.size w2).alloc (ag _) (.cells #[.int .u64 0,.int .u32 0,.int .i64 0,.int .i64 0] 49);have hb3:=hb2.trans (hA.mono hb2.size);have gp:=zh (zE ja.o hb3);have eX:=zh (eV.o.trans (hb3.mono eV.o.size));clear hA hb3 hb2 g0 g1 g2 g3 g4 g5 g6 g7 g8 g9 g10 g11 g12 g13 k3;go_wp2_with fail;exact ⟨⟨k+1,by go_num,by omega,zh (by rw[Qa.o,pX.o];exact gp.o),eX⟩,by simp[intOf];omega⟩
  |some x =>
   rw[C2] at Cj hon;have pX:Hid (Xp=OK++[num]):=zh (hon);clear C2 hon;obtain ⟨xk,xc,xo,xz⟩:=x;have KQ:Hid (Calls prog 124 #[yD s LV GA,.int .u64 key] w1 fun e w'=>e=.returned (.tuple #[.agg #[.int .u64 xk,.int .u32 xc,.int .i64 xo,.int .i64 xz],.bool true])/\Below w1.heap.size w1 w'):=zh (Cj.o);clear Cj;have ho:=ja.o;unfold gY at ho;obtain ⟨oa,oc,Ci,_⟩:=zG ho;subst Ci;clear ho;go_wp2_with fail;refine KQ.o.mono ?_;rintro e w2 ⟨rfl,hb2⟩;have hA:=(aj w2.heap.size w2).alloc (ag _) (.cells #[.int .u64 xk,.int .u32 xc,.int .i64 xo,.int .i64 xz] 49);have hb3:=hb2.trans (hA.mono hb2.size);have gp:=zh (zE ja.o hb3);have eX:=zh (eV.o.trans (hb3.mono eV.o.size));have Qb:=Below.keeps hb3 _ _ g0;have Qc:=Below.keeps hb3 _ _ k3;clear hA hb3 hb2 g0 g1 g2 g3 g4 g5 g6 g7 g8 g9 g10 g11 g12 g13 k3;go_upto_region 7 with fail
   generalize w2.alloc (.cells #[.int .u64 xk,.int .u32 xc,.int .i64 xo,.int .i64 xz] 49)=w3 at *;have Xq:Hid (Below w3.heap.size w3 (w3.alloc (.cells #[.int .i64 num] 3))):=zh ((aj _ _).alloc (ag _) _);have rU:Hid ((w3.alloc (.cells #[.int .i64 num] 3)).ownsRow W.heap.size 3 1 _ _ _):=zh (zE gp.o Xq.o);have EA:W.heap.size<=w3.heap.size:=eX.o.size;have al8:OK.length<=8:=by omega
   go_wp2_with (at_builtin;go_must (refine zP (m:=1) rfl (.tmp 33) (.tmp 40) 233 rfl zMB W.heap.size rfl rU.o rfl (Rd.jR w3.heap.size w3 rfl 1 [.int .i64 num] 3 1 rfl (by decide)) (fun u hu=>by simp at hu;subst hu;rfl) (by unfold maxLen;omega) (by omega) (by simp;omega) ?_;intro v4 w4 fw gI hv4;clear hv4));have gq:=zh (zK (eX.o.trans (Xq.o.mono EA)) rU.o (ak EA Xq.o.size) gI)
   have iP:=zh (show gY w4 W.heap.size v4 Xp from by
    unfold gY
    rw[pX.o,ax,aU]
    exact fw)
   clear fw gI Qb Qc;go_wp2_with fail;exact ⟨⟨k+1,by go_num,by omega,zh (by rw[Qa.o];exact iP.o),gq⟩,by simp[intOf];omega⟩
 have i1:¬ (k:Int)+1<((m+1:Nat):Int):=by omega
 have i2:¬ (k:Int)+1<(m:Int)+1:=by omega
 have i3:¬ k+1<m+1:=by omega
 have Fa:k=m:=by omega
 have gp:Hid (gY wr W.heap.size _ (uS (ey L) key m)):=zh (Fa▸HO.o);clear Fa;have hle:=eP.o.size;go_wp2_with fail;go_ret;exact ⟨_,rfl,by rw[HF.o];exact World.ownsRow.mono gp.o hle,oO.o⟩
def zGa (i l:Int) (r:Bool) (a:Option Addr) (n c:Nat) (L:List GP) (w:World) (h:fB w (.slice a n c) L) (hs:∀ p∈L,∀ j,j<8->(p.1.m.st j).length<=10000) (key:Int) :
  Calls prog 156 #[zQ i l r a n c,.int .u64 key] w fun e w'=>∃ v',e=.returned v'/\gY w' w.heap.size v' (zd ⟨i,l,r,ey L⟩ key)/\Below w.heap.size w w':=by
 cases hv:zb ⟨i,l,r,ey L⟩
 ·exact zJW i l r a n c L w h hs hv key
 exact zG4 i l r a n c L w h hs hv key
def iI (W:World) (B:Nat) (T:TypeId) (sz:Nat) (v:Value) (n:Nat) (xs:List Value):Prop:=Rd W sz v n xs/\∀ g,v.ownBlock=some g->xs=[]∨g<B∨∃ c f,W.heap[g]?=some (.cells c T f)
structure gO (W W':World) (B b:Nat) (T:TypeId):Prop where
 lo:B<=b
 ty:∃ c f,W.heap[b]?=some (.cells c T f)
 blk:∀ k,k<W.heap.size->k≠b->W'.heap[k]?=W.heap[k]?
def gO.pts {W:World} {B b:Nat} {T:TypeId} (hB:B<=b) (ht:∃ c f,W.heap[b]?=some (.cells c T f)):∀ (vs:List (Nat×Value)),gO W (Go.Proofs.YtcgfilmmokmdjaaGreat.pts W b vs) B b T:=by
 have key:∀ (vs:List (Nat×Value)) (W:World) (k:Nat),k≠b->(Go.Proofs.YtcgfilmmokmdjaaGreat.pts W b vs).heap[k]?=W.heap[k]?:=by
  intro vs
  induction vs with
  |nil=>intro W k _;rfl
  |cons p r ih =>
   intro W k hk;obtain ⟨i,u⟩:=p
   show (Go.Proofs.YtcgfilmmokmdjaaGreat.pts (W.setCell ⟨b,i,none⟩ u) b r).heap[k]?=_
   rw[ih _ k hk];exact Below.heap_setCell W ⟨b,i,none⟩ u k hk
 exact fun vs=>⟨hB,ht,fun k _ hk=>key vs W k hk⟩
variable {W W':World} {B b:Nat} {T:TypeId}
def gO.grown {row:Option Nat} (hB:B<=b) (ht:∃ c f,W.heap[b]?=some (.cells c T f)) (hg:W.grownBy W' row) (hr:row=none∨row=some b):gO W W' B b T:=
 ⟨hB,ht,fun k hk hne=>hg.block k hk (fun e=>by rcases hr with h|h<;>rw[h] at e<;>cases e;exact hne rfl)⟩
def iI.bb {W W':World} {B:Nat} {T:TypeId} {sz:Nat} {v:Value} {n:Nat} {xs:List Value} (h:iI W B T sz v n xs) (hb:Below W.heap.size W W'):iI W' B T sz v n xs:=
 ⟨h.1.bb hb,fun g hg=>(h.2 g hg).imp id fun h=>h.imp id fun ⟨c,f,h⟩=>⟨c,f,by rw[hb.block g (Array.getElem?_eq_some_iff.1 h).1];exact h⟩⟩
variable {T':TypeId} {sz n:Nat} {v:Value} {xs:List Value}
def iI.ik (h:iI W B T sz v n xs) (ho:gO W W' B b T') (hne:T≠T'):iI W' B T sz v n xs:=by
 obtain ⟨⟨h0,a,cap,e,h1,h2,h3,h4⟩,h5⟩:=h;subst e;have key:∀ g,a.map (·.block)=some g->xs≠[]->g≠b:=fun g hg hx e=>by
  subst e;have LD:(Value.slice a n cap).ownBlock=some g:=by
   cases a with
   |none=>cases hg
   |some y=>simpa [Value.ownBlock] using hg
  rcases h5 g LD with h|h|⟨c,f,h⟩
  ·exact hx h
  ·have:=ho.lo;omega
  obtain ⟨c',f',h'⟩:=ho.ty;rw[h] at h';injection h' with h';injection h' with _ h';exact hne h'
 refine ⟨⟨h0,a,cap,rfl,h1,h2,h3,fun hp=>?_⟩,fun g hg=>?_⟩
 ·obtain ⟨b',off,e,hc⟩:=h4 hp;refine ⟨b',off,e,fun j u hj=>?_⟩;have hc':=hc j u hj;have hlt:=bW W _ hc';have hn:=key b' (by rw[e];rfl) (fun e=>by rw[e] at hp;cases hp);exact (World.cell?_of_block (ho.blk b' hlt hn)).trans hc'
 by_cases hx:xs=[]
 ·exact .inl hx
 have hg2:a.map (·.block)=some g:=by
  cases a with
  |none=>cases hg
  |some y=>simpa [Value.ownBlock] using hg
 rcases h5 g hg with h|h|⟨c,f,h⟩
 ·exact .inl h
 ·exact .inr (.inl h)
 exact .inr (.inr ⟨c,f,by rw[ho.blk g (Array.getElem?_eq_some_iff.1 h).1 (key g hg2 hx)];exact h⟩)
def iI.old (h:Rd W sz v n xs) (hB:W.heap.size<=B):iI W B T sz v n xs:=by
 refine ⟨h,fun g hg=>?_⟩;obtain ⟨h0,a,cap,e,h1,h2,h3,h4⟩:=h
 by_cases hx:xs=[]
 ·exact .inl hx
 right;left
 have hp:0<xs.length:=by
  cases xs with
  |nil=>exact absurd rfl hx
  |cons x r=>simp
 obtain ⟨b',off,e',hc⟩:=h4 hp;subst e e';have LD:b'=g:=by simpa [Value.ownBlock] using hg
 subst LD;have:=bW W _ (hc 0 _ (aA hp));exact cH this hB
variable {B':Nat}
def iI.own (h:W.ownsRow B' T sz v n xs):iI W B T sz v n xs:=
 ⟨zr h,fun g hg=>.inr (.inr (Lib.ownsRow_kind h g hg))⟩
def zL1 (h:W.ownsRow B' T sz v n xs) (ho:gO W W' B b T') (hne:v.ownBlock≠some b):W'.ownsRow B' T sz v n xs:=by
 obtain ⟨h1,h2⟩:=h;refine ⟨h1,?_⟩;rcases h2 with h2|⟨g,cap,cur,e,hb,hg,h3⟩
 ·exact .inl h2
 refine .inr ⟨g,cap,cur,e,hb,?_,h3⟩;rw[ho.blk g (Array.getElem?_eq_some_iff.1 hg).1 (fun e2=>hne (by rw[e,e2];rfl))];exact hg
def yT (h:W.ownsRow B' T sz v n xs) (ho:gO W W' B b T') (hne:T≠T'):W'.ownsRow B' T sz v n xs:=
 zL1 h ho fun e=>by
  obtain ⟨c,f,h1⟩:=Lib.ownsRow_kind h b e;obtain ⟨c',f',h2⟩:=ho.ty;rw[h1] at h2;injection h2 with h2;injection h2 with _ h2;exact hne h2
/-! ### lr -/
def jm (W:World) (B:Nat) (s:Sl) (f:Nat->List It):Prop:=∀ i,i<8->iI W B 49 4 (s.v i) (f i).length (zg (f i))
def jm.rd {s:Sl} {f:Nat->List It} (h:jm W B s f):fN W s f:=fun i hi=>xF (h i hi).1
def jm.bb {W W':World} {B:Nat} {s:Sl} {f:Nat->List It} (h:jm W B s f) (hb:Below W.heap.size W W'):jm W' B s f:=fun i hi=>(h i hi).bb hb
structure ix (W:World) (B:Nat) (v:Value) (L:List GP):Prop where
 r:iI W B 38 14 v L.length (L.flatMap iM)
 m:∀ p∈L,jm W B p.2 p.1.m.st
def ix.rd {W:World} {B:Nat} {v:Value} {L:List GP} (h:ix W B v L):fB W v L:=⟨⟨fun x _=>tJ x,h.r.1⟩,fun p hp=>(h.m p hp).rd⟩
def ix.bb {W W':World} {B:Nat} {v:Value} {L:List GP} (h:ix W B v L) (hb:Below W.heap.size W W'):ix W' B v L:=⟨h.r.bb hb,fun p hp=>(h.m p hp).bb hb⟩
def ix.ik {W W':World} {B b:Nat} {T':TypeId} {v:Value} {L:List GP} (h:ix W B v L) (ho:gO W W' B b T') (h1:38≠T') (h2:49≠T'):ix W' B v L:=⟨h.r.ik ho h1,fun p hp i hi=>(h.m p hp i hi).ik ho h2⟩
def ix.old {W:World} {B:Nat} {v:Value} {L:List GP} (h:fB W v L) (hB:W.heap.size<=B):ix W B v L:=⟨iI.old h.r.2 hB,fun p hp i hi=>iI.old (un (h.m p hp i hi)) hB⟩
def ix.own {W:World} {B B' n:Nat} {v:Value} {L:List GP} (h:iN W B' v n L):ix W B v L:=⟨by have:=h.row;rw[h.len] at this;exact iI.own this,fun p hp i hi=>iI.own (h.m p hp i hi)⟩
/-! ### Requests -/
def EO (p:Rq×Value):List Value:=[.int .i64 p.1.tk,.int .i64 p.1.kind,.int .u64 (p.1.key:Int),.int .u32 (p.1.ck:Int),p.2]
def Qd (p:Rq×Value):(EO p).length=5:=rfl
abbrev Eg (tk kind key ck:Int) (d:Value):Value:=.agg #[.int .i64 tk,.int .i64 kind,.int .u64 key,.int .u32 ck,d]
structure AW (w:World) (v:Value) (qs:List (Rq×Value)):Prop where
 row:jy 5 EO w v qs
 dat:∀ p∈qs,ll w p.2 p.1.data
def AW.bb {w w':World} {v:Value} {qs:List (Rq×Value)} (h:AW w v qs) (hb:Below w.heap.size w w'):AW w' v qs:=⟨jy.bb h.row hb,fun p hp=>il.bb (h.dat p hp) hb⟩
def Ab (l:List (Rq×Value)) (i:Nat):Rq×Value:=l.getD i (NN,.slice none 0 0)
def Tg {l:List (Rq×Value)} {i:Nat} (h:i<l.length):Ab l i∈l:=by
 unfold Ab;rw[aw,aA h];exact bM h
def AW.shape {w:World} {v:Value} {qs:List (Rq×Value)} (h:AW w v qs):∃ a cap,v=.slice a qs.length cap/\qs.length<=cap/\cap<=maxLen:=by
 obtain ⟨a,cap,h1,h2,h3,_⟩:=jy.shape h.row (by decide) (NN,.slice none 0 0);exact ⟨a,cap,h1,h2,h3⟩
def AW.at {w:World} {a:Option Addr} {n cap:Nat} {qs:List (Rq×Value)} (h:AW w (.slice a n cap) qs) {j:Nat} (hj:j<n):∃ b off,a=some ⟨b,off,none⟩/\ll w (Ab qs j).2 (Ab qs j).1.data /\
  w.cell? ⟨b,off+j*5,none⟩=some (.int .i64 (Ab qs j).1.tk)/\w.cell? ⟨b,off+j*5+1,none⟩=some (.int .i64 (Ab qs j).1.kind)/\w.cell? ⟨b,off+j*5+2,none⟩=some (.int .u64 ((Ab qs j).1.key:Int)) /\
  w.cell? ⟨b,off+j*5+3,none⟩=some (.int .u32 ((Ab qs j).1.ck:Int))/\w.cell? ⟨b,off+j*5+4,none⟩=some (Ab qs j).2:=by
 obtain ⟨a',cap',e,h2,h3,_,h5⟩:=jy.shape h.row (by decide) (NN,.slice none 0 0);injection e with e1 e2 e3;subst e1 e2 e3;obtain ⟨b,off,e,hc⟩:=h5 (by omega);refine ⟨b,off,e,h.dat _ (Tg hj),?_,hc j hj 1 _ rfl,hc j hj 2 _ rfl,hc j hj 3 _ rfl,hc j hj 4 _ rfl⟩;have:=hc j hj 0 _ rfl;rwa [bE] at this
/-! ### rS of the call's own, their bytes read -/
def gD (W:World) (B:Nat) (v:Value) (d:List UInt8):Prop:=iI W B 5 1 v d.length (d.map yy)
def gD.rd {d:List UInt8} (h:gD W B v d):ll W v d:=h.1
structure gH (W:World) (B:Nat) (v:Value) (es:List (Nd×Value)):Prop where
 row:W.ownsRow B 56 4 v es.length (xI es)
 dat:∀ p∈es,gD W B p.2 p.1.data
def gH.bb {W W':World} {B:Nat} {v:Value} {es:List (Nd×Value)} (h:gH W B v es) (hb:Below W.heap.size W W'):gH W' B v es:=⟨zE h.row hb,fun p hp=>(h.dat p hp).bb hb⟩
def gH.ik {W W':World} {B b:Nat} {T':TypeId} {v:Value} {es:List (Nd×Value)} (h:gH W B v es) (ho:gO W W' B b T') (h1:56≠T') (h2:5≠T'):gH W' B v es:=⟨yT h.row ho h1,fun p hp=>(h.dat p hp).ik ho h2⟩
/-! ### Gz of the call's own -/
abbrev KP:=Int×Value×List Int
def iy (p:KP):List Value:=[.int .i64 p.1,p.2.1]
def xV (p:KP):(iy p).length=2:=rfl
def gV (l:List KP):List Kl:=l.map fun p=>(p.1,p.2.2)
def iG (l:List KP) (i:Nat):KP:=l.getD i (0,.slice none 0 0,[])
structure iV (W:World) (B:Nat) (v:Value) (ks:List KP):Prop where
 row:W.ownsRow B 89 2 v ks.length (ks.flatMap iy)
 keys:∀ p∈ks,W.ownsRow B 24 1 p.2.1 p.2.2.length (p.2.2.map Fc)
 apart:ks.Pairwise fun p q=>p.2.1.ownBlock=none∨p.2.1.ownBlock≠q.2.1.ownBlock
def iV.bb {ks:List KP} (h:iV W B v ks) (hb:Below W.heap.size W W'):iV W' B v ks:=⟨zE h.row hb,fun p hp=>zE (h.keys p hp) hb,h.apart⟩
def iV.ik {ks:List KP} (h:iV W B v ks) (ho:gO W W' B b T') (h1:89≠T') (h2:24≠T'):iV W' B v ks:=⟨yT h.row ho h1,fun p hp=>yT (h.keys p hp) ho h2,h.apart⟩
/-! ### The oM -/
abbrev qS (i l:Int) (r:Bool) (ga:Option Addr) (gn gc:Nat) (eH:Bool) (kv nv rv:Value) (iC:Int):Array Value:=#[.int .i64 i,.int .i64 l,.bool r,.slice ga gn gc,.bool eH,.int .i64 0,kv,nv,rv,.int .i64 iC]
structure nj (W:World) (B:Nat) (P:fP) (ga:Option Addr) (gn gc:Nat) (L:List GP) (kv:Value) (ks:List KP) (nv:Value) (es:List (Nd×Value)) (rv:Value):Prop where
 g:ix W B (.slice ga gn gc) L
 gg:ey L=P.t.ep
 k:iV W B kv ks
 kk:gV ks=P.eE
 n:gH W B nv es
 nn:es.map (·.1)=P.needs
 r:W.ownsRow B 39 1 rv P.res.length (P.res.map qQ)
section
variable {W W':World} {B b:Nat} {P:fP} {ga:Option Addr} {gn gc:Nat} {L:List GP} {kv:Value} {ks:List KP} {nv:Value} {es:List (Nd×Value)} {rv:Value}
def nj.bb (h:nj W B P ga gn gc L kv ks nv es rv) (hb:Below W.heap.size W W'):nj W' B P ga gn gc L kv ks nv es rv:=
 ⟨h.g.bb hb,h.gg,h.k.bb hb,h.kk,h.n.bb hb,h.nn,zE h.r hb⟩
def nj.ik (h:nj W B P ga gn gc L kv ks nv es rv) (ho:gO W W' B b 145):nj W' B P ga gn gc L kv ks nv es rv:=
 ⟨h.g.ik ho (by decide) (by decide),h.gg,h.k.ik ho (by decide) (by decide),h.kk,h.n.ik ho (by decide) (by decide),h.nn,yT h.r ho (by decide)⟩
end
abbrev Ac (W:World) (b:Nat) (i l:Int) (r:Bool) (ga:Option Addr) (gn gc:Nat) (eH:Bool) (kv nv rv:Value) (iC:Int):Prop:=eu W b (qS i l r ga gn gc eH kv nv rv iC) 145
def AX (W:World) (B b:Nat) (P:fP):Prop:=∃ ga gn gc L kv ks nv es rv,B<=b/\Ac W b P.t.id P.t.lim P.t.ro ga gn gc P.eH kv nv rv P.bytes/\nj W B P ga gn gc L kv ks nv es rv
def AX.bb {W W':World} {B b:Nat} {P:fP} (h:AX W B b P) (hb:Below W.heap.size W W'):AX W' B b P:=by
 obtain ⟨ga,gn,gc,L,kv,ks,nv,es,rv,h1,h2,h3⟩:=h;exact ⟨ga,gn,gc,L,kv,ks,nv,es,rv,h1,h2.bb hb,h3.bb hb⟩
def zIa (i l:Int) (r:Bool) (a:Option Addr) (n c:Nat) (L:List GP) (w:World) (h:fB w (.slice a n c) L) (hs:∀ p∈L,∀ j,j<8->(p.1.m.st j).length<=10000) (m:Int) :
  Calls prog 36 #[zQ i l r a n c,.int .i64 m] w fun e w'=>e=.returned (.bool (xA ⟨i,l,r,ey L⟩ m))/\Below w.heap.size w w':=by
 have fV:=zh (fun W (hb:Below w.heap.size w W)=>yu i l r a n c L W (h.bb hb) hs);have eO:=zh (fp.new w i l r a n c 27);have eP:=zh (zR w i l r a n c 27);have hcs:xA ⟨i,l,r,ey L⟩ m=(zb ⟨i,l,r,ey L⟩&&(decide (0<=m)&&decide (m<=4096))&&decide ((zZ ⟨i,l,r,ey L⟩).size+(eY m.toNat:Nat)<=l)):=rfl
 cases hv:zb ⟨i,l,r,ey L⟩
 ·rw[hv] at fV hcs;have HF:=zh (show xA ⟨i,l,r,ey L⟩ m=false by rw[hcs];rfl);clear h hs hv hcs;generalize xA ⟨i,l,r,ey L⟩ m=F at *
  go_enter func36,ntmps36
  go_upto_region 1 with fail;obtain ⟨W,hW⟩:∃ W,w.alloc (.cells (zM i l r a n c) 27)=W:=⟨_,rfl⟩
  change Code.wp _ _ _ _ (w.alloc (.cells (zM i l r a n c) 27));rw[hW] at eO eP |-;clear hW;have pH:=eO.o.lt;obtain ⟨k0,k1,k2,k3⟩:=eO.o.q;go_wp2_with fail;refine (fV.o _ eP.o).mono ?_;rintro e w1 ⟨rfl,hb1⟩;have eV:=zh (zA eP.o hb1);clear k0 k1 k2 k3 hb1;go_wp2_with fail;go_ret;exact ⟨by rw[HF.o];rfl,eV.o⟩
 by_cases h1:m<0
 ·rw[hv] at fV hcs;have HF:=zh (show xA ⟨i,l,r,ey L⟩ m=false by rw[hcs,show decide (0<=m)=false by simp;omega];rfl);have e1:decide (m<0)=true:=by simp;omega
  clear h hs hv hcs;generalize xA ⟨i,l,r,ey L⟩ m=F at *
  go_enter func36,ntmps36
  go_upto_region 1 with fail;obtain ⟨W,hW⟩:∃ W,w.alloc (.cells (zM i l r a n c) 27)=W:=⟨_,rfl⟩
  change Code.wp _ _ _ _ (w.alloc (.cells (zM i l r a n c) 27));rw[hW] at eO eP |-;clear hW;have pH:=eO.o.lt;obtain ⟨k0,k1,k2,k3⟩:=eO.o.q;go_wp2_with fail;refine (fV.o _ eP.o).mono ?_;rintro e w1 ⟨rfl,hb1⟩;have eV:=zh (zA eP.o hb1);clear k0 k1 k2 k3 hb1;go_wp2_with fail;go_ret;exact ⟨by rw[HF.o];rfl,eV.o⟩
 by_cases h2:4096<m
 ·rw[hv] at fV hcs;have HF:=zh (show xA ⟨i,l,r,ey L⟩ m=false by rw[hcs,show decide (m<=4096)=false by simp;omega];simp);have e1:decide (m<0)=false:=by simp;omega
  have e2:decide ((4096:Int)<m)=true:=by simp;omega
  clear h hs hv hcs;generalize xA ⟨i,l,r,ey L⟩ m=F at *
  go_enter func36,ntmps36
  go_upto_region 1 with fail;obtain ⟨W,hW⟩:∃ W,w.alloc (.cells (zM i l r a n c) 27)=W:=⟨_,rfl⟩
  change Code.wp _ _ _ _ (w.alloc (.cells (zM i l r a n c) 27));rw[hW] at eO eP |-;clear hW;have pH:=eO.o.lt;obtain ⟨k0,k1,k2,k3⟩:=eO.o.q;go_wp2_with fail;refine (fV.o _ eP.o).mono ?_;rintro e w1 ⟨rfl,hb1⟩;have eV:=zh (zA eP.o hb1);clear k0 k1 k2 k3 hb1;go_wp2_with fail;go_ret;exact ⟨by rw[HF.o];rfl,eV.o⟩
 obtain ⟨k,rfl⟩:∃ k:Nat,m=(k:Int):=⟨m.toNat,by omega⟩
 have fT:L.length=n:=by
  obtain ⟨_,_,e,_⟩:=h.shape;injection e with _ e _;exact e.symm
 have hV:=(zX _).1 hv;have hn:1<=n:=by have:=hV.len;simp only[zk,fT] at this;exact this.1
 obtain ⟨j,rfl⟩:∃ j,n=j+1:=⟨n-1,by omega⟩
 refine (zId i l r a (j+1) c L w h hs hv k (by omega)).mono fun e w' ⟨he,hb⟩=>⟨?_,hb⟩
 rw[he,hcs,hv,wZ fT,show decide ((0:Int)<=(k:Int))=true by simp,show decide ((k:Int)<=4096)=true by simp;omega];simp
end Go.Proofs.YtcgfilmmokmdjaaGreat
