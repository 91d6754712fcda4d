import Derived.Test.YtcgfilmmokmdjaaGreatQAK
set_option linter.all false
set_option maxRecDepth 100000
set_option maxHeartbeats 32000000
namespace Go.Proofs.YtcgfilmmokmdjaaGreat
open Go.RowKit
theorem zLl (l:List Nd):iR l≤l.length*4127:=by
 induction l with
 |nil=>exact aq _
 |cons x r ih =>
  have:=xj x.data.length;rw[vG,aV,dh];omega
theorem YW {es:List (Nd×Value)} {i:Nat} (h:i<es.length):(es.map (·.1)).take (i+1)=(es.map (·.1)).take i++[(xQ es i).1]:=by
 rw[cV,b_,aB h];unfold xQ;rw[ax,aB h]
 rfl
theorem tK (l:List Nd):DY l=true↔∀ x∈l,x.ok:=by
 unfold DY;rw[dy];exact ⟨fun h x hx=>bn (h x hx),fun h x hx=>aC (h x hx)⟩
theorem YX (g:Gn) (s:Sl) (v:Value) (es:List (Nd×Value)) (K:Nat) (w:World) (h:fG w s g.m.st) (hs:∀ i,i<8→(g.m.st i).length≤K) (hr:nC w v es) (hK:K+es.length≤9000) (il:∀ p∈es,p.1.data.length≤1000000) :
  Calls Tryz.prog 43 #[zd g.num g.rev g.mode g.size s g.m.live g.m.d_,v] w (MV w s g.m.st (xE g (es.map (·.1)))):=by
 obtain ⟨va,vc,rfl,rP,hv2⟩:=hr.shape;have D4:∀ i,i<8→(g.m.st i).length≤10000:=fun i hi=>ak (hs i hi) (by omega)
 have HV:=zh (fun W (hb:Below w.heap.size w W)=>uD g s W (h.below hb) D4);have iq:=zh hr;have EF:=zh h;have jf:=zh (show ∀ W,eU W w.heap.size s g.m.st Sl.nil ix.m.st from fun W=>eU.nil W _ _ _);have HG:=zh (show xE g (es.map (·.1))=if wN g=true∧DY (es.map (·.1))=true then (if g.mode=1 then (if g.size+(iR (es.map (·.1)):Int)≤1048576 then (0,zj g (es.map (·.1))) else (9,ix)) else (12,ix)) else (1,ix) from rfl);have jl:=zh (show wN g=true→16≤g.size∧g.size≤1048576 from fun hv=>⟨((yJ g).1 hv).size.1,((yJ g).1 hv).size.2.1⟩);have jb:=zh (fun i (hi:i≤es.length)=>wT ((es.map (·.1)).take i) g hs);have sX:=zh (fun i (hi:i<es.length)=>il _ (uZ hi));have Bj:=zh (fun i (hi:i<es.length)=>@YW es i hi)
 have oT:=zh (show ∀ i,i≤es.length→iR ((es.map (·.1)).take i)≤9000*4127 from fun i hi=>by
  have h1:=zLl ((es.map (·.1)).take i)
  have h2:((es.map (·.1)).take i).length≤9000:=by rw[ay];omega
  have:=aW 4127 h2
  omega)
 have JI:=zh (tK (es.map (·.1)));have M5:=zh (show ∀ i,i<es.length→(xQ es i).1∈es.map (·.1) from fun i hi=>cZ (uZ hi));have mP:=zh (show (es.map (·.1)).take es.length=es.map (·.1) from aS (by rw[aH];omega))
 have M6:=zh (show (∀ j,j<es.length→(xQ es j).1.ok)→∀ x∈es.map (·.1),x.ok from fun hh x hx=>by
  obtain ⟨p,hp,rfl⟩:=List.mem_map.1 hx
  obtain ⟨j,hj,rfl⟩:=cG hp
  have:=hh j hj
  unfold xQ at this
  rw[ax,aB hj] at this
  exact this)
 clear hr h hs D4 il;generalize hN:es.map (·.1)=N at *;generalize hnn:es.length=n at *;have Tv:=zh hnn;clear hnn hN;obtain ⟨gn,rv,md,z,⟨f,L,G⟩⟩:=g;generalize oK:(⟨gn,rv,md,z,⟨f,L,G⟩⟩:Gn)=g at *;have Tw:=zh oK;obtain ⟨W,hW,fM,hbr,fU⟩:=wv w gn rv md z s L G 113;have HX:=zh fM;have HR:=zh hbr;have HB:=zh fU;clear fM hbr fU;generalize xE g N=TG at *;generalize wN g=vb at *;subst oK;dsimp only at *
 go_enter Tryz.func43,Tryz.ntmps43
 go_upto_region 1 with fail;change Code.wp _ _ _ _ ((w.alloc (.cells (zX gn rv md z s L G) 113)).alloc (.cells (zX 0 0 0 0 Sl.nil 0 0) 113));rw[hW];clear hW;obtain ⟨x0,x1,x2,x3,x4,x5,x6,x7,x8,x9,gq,gu,gj,gl⟩:=HX.out.q;go_wp2_with fail;refine (HV.out _ HB.out).mono ?_;rintro e w1 ⟨rfl,hb1⟩;have fh:=zh (HX.out.below hb1);have fq:=zh (HR.out.below hb1);have eP:=zh (zA HB.out hb1);have hlr:w.heap.size+1<W.heap.size:=HR.out.lt;clear x0 x1 x2 x3 x4 x5 x6 x7 x8 x9 gq gu gj gl;clear hb1 HX HR HB HV
 cases vb
 ·
  have jt:=zh (show TG=(1,ix) by rw[HG.out,ai (fun h=>by cases h.1)]);obtain ⟨r0,r1,r2,r3,r4,r5,r6,r7,r8,r9,mW,mC,nB,oJ⟩:=fq.out.q;have rf:=fq.out.f;go_wp2_with fail;change bodyPost _ _ _ _ _ (pts w1 (w.heap.size+1) (zQ 0 0 0 0 Sl.nil 0 0));have hby:=fq.out.all 0 0 0 0 Sl.nil 0 0;have eD:=zh (zD (B:=w.heap.size) (b:=(w.heap.size+1)) (by omega) (zQ 0 0 0 0 Sl.nil 0 0) eP.out);have gW:=jf.out (pts w1 (w.heap.size+1) (zQ 0 0 0 0 Sl.nil 0 0));rw[jt.out];generalize pts w1 (w.heap.size+1) (zQ 0 0 0 0 Sl.nil 0 0)=V at *;exact au (v:=.tuple #[zd 0 0 0 0 Sl.nil 0 0,.int .i64 1]) (by simp[results,Tryz.results43,go_sem,hby.q]) rfl ⟨⟨_,rfl,gW⟩,eD.out⟩
 obtain ⟨hz1,hz2⟩:=jl.out rfl;obtain ⟨x0,x1,x2,x3,x4,x5,x6,x7,x8,x9,gq,gu,gj,gl⟩:=fh.out.q;go_wp2_with fail
 go_loopw [6,7] (fun sv iv W=>∃ i:Nat,iv=.int .i64 (i:Int)∧sv=.int .i64 (z+(iR (N.take i):Int))∧i≤n∧Hid (∀ j,j<i→(xQ es j).1.ok)∧Hid (eO W w.heap.size gn rv md z s L G)∧Hid (eO W (w.heap.size+1) 0 0 0 0 Sl.nil 0 0)∧Hid (Below w.heap.size w W)) (fun _ iv _=>n-(intOf iv).toNat)
 case atStart=>exact ⟨0,rfl,by simp[iR],aq _,zh (fun j hj=>by omega),fh,fq,eP⟩
 obtain ⟨i,rfl,rfl,hi,sD,nX,jF,k_⟩:=hrel;clear fh fq eP;have YD:=oT.out i hi
 by_cases hlt:i<n
 ·
  obtain ⟨b,off,rfl,lq,c0,c1,c2,c3⟩:=(iq.out.below k_.out).at hlt;have JJ:=sX.out i hlt;have K3:=zh (Bj.out i hlt);have Tx:=zh (M5.out i hlt)
  have A2:=zh (show (xQ es i).1.ok→∀ j,j<i+1→(xQ es j).1.ok from fun ho j hj=>by
   by_cases e:j=i
   ·
    subst e;exact ho
   exact sD.out j (by omega))
  have JK:=oT.out (i+1) hlt;generalize xQ es i=X at c0 c1 c2 c3 lq JJ K3 Tx A2;obtain ⟨x,xv⟩:=X;dsimp only at c0 c1 c2 c3 lq JJ K3 Tx A2;obtain ⟨xa,xc,rfl,hx1,hx2⟩:=lq.fK;have Au:=zh (fun W=>zCv x xa xc W);have JL:=zh (fun W=>Xb x.data.length W JJ);rw[K3.out,kX] at JK;have i1:(i:Int)<(n:Int):=by omega
  clear lq
  by_cases hok:x.ok
  ·
   rw[aC hok] at Au;go_wp2_with fail;refine (Au.out _).mono ?_;rintro e w2 ⟨rfl,hb2⟩;have c3':=hb2.keeps' c3;have fW:=zh (nX.out.below hb2);have gN:=zh (jF.out.below hb2);have eM:=zh (zA k_.out hb2);clear hb2 c0 c1 c2 c3 nX jF k_;generalize hm:x.data.length=m at *;have Hm:=zh hm;clear hm;go_wp2_with fail;refine (JL.out _).mono ?_;rintro e w3 ⟨rfl,rfl⟩;go_wp2_with fail
   go_roundw
   case rel=>exact ⟨i+1,by go_num,by rw[K3.out,kX,Hm.out,di,Int.add_assoc],by omega,zh (A2.out hok),fW,gN,eM⟩
   case measure=>simp[intOf];omega
  have jt:=zh (show TG=(1,ix) by rw[HG.out,ai (fun h=>hok (JI.out.1 h.2 x Tx.out))]);rw[aD hok] at Au;go_wp2_with fail;refine (Au.out _).mono ?_;rintro e w2 ⟨rfl,hb2⟩;have fW:=zh (nX.out.below hb2);have gN:=zh (jF.out.below hb2);have eM:=zh (zA k_.out hb2);clear hb2 c0 c1 c2 c3 nX jF k_;obtain ⟨r0,r1,r2,r3,r4,r5,r6,r7,r8,r9,mW,mC,nB,oJ⟩:=gN.out.q;have rf:=gN.out.f;go_wp2_with fail;change bodyPost _ _ _ _ _ (pts w2 (w.heap.size+1) (zQ 0 0 0 0 Sl.nil 0 0));have hby:=gN.out.all 0 0 0 0 Sl.nil 0 0;have eD:=zh (zD (B:=w.heap.size) (b:=(w.heap.size+1)) (by omega) (zQ 0 0 0 0 Sl.nil 0 0) eM.out);have gW:=jf.out (pts w2 (w.heap.size+1) (zQ 0 0 0 0 Sl.nil 0 0));rw[jt.out];generalize pts w2 (w.heap.size+1) (zQ 0 0 0 0 Sl.nil 0 0)=V at *
  exact au (v:=.tuple #[zd 0 0 0 0 Sl.nil 0 0,.int .i64 1]) (by simp[results,Tryz.results43,go_sem,hby.q]) rfl ⟨⟨_,rfl,gW⟩,eD.out⟩
 have hin:i=n:=by omega
 have FO:=zh (show ∀ j,j<n→(xQ es j).1.ok from hin▸sD.out);clear sD;rw[hin,mP.out] at YD;rw[hin,mP.out];clear hin hi;have M8:DY N=true:=JI.out.2 (M6.out FO.out);have j_:=zh (show TG=(if md=1 then (if z+(iR N:Int)≤1048576 then (0,zj ⟨gn,rv,md,z,⟨f,L,G⟩⟩ N) else (9,ix)) else (12,ix)) by rw[HG.out,ah ⟨trivial,M8⟩]);clear HG M8
 by_cases nU:md=1
 ·
  have e1:(md==1)=true:=by rw[nU];rfl
  by_cases hfit:z+(iR N:Int)≤1048576
  ·
   have jt:=zh (show TG=(0,zj ⟨gn,rv,md,z,⟨f,L,G⟩⟩ N) by rw[j_.out,ah nU,ah hfit]);have e2:decide (1048576<z+(iR N:Int))=false:=by simp;omega
   clear j_;have agr:=nU;subst nU;obtain ⟨g0,hg0⟩:∃ g0:Gn,(⟨gn,rv,1,z,⟨f,L,G⟩⟩:Gn)=g0:=⟨_,rfl⟩
   have GH:=zh (show ∀ i,i≤n→∀ j,j<8→((zj g0 (N.take i)).m.st j).length≤9000 from fun i hi j hj=>by
    have h1:=jb.out i hi j hj
    have h2:(N.take i).length≤n:=by rw[ay];omega
    rw[← hg0];omega)
   have JM:=zh (show ∀ i,i<n→zj g0 (N.take (i+1))=yS (zj g0 (N.take i)) (xQ es i).1 from fun i hi=>by rw[Bj.out i hi,Yu]);have Ty:=zh (show ∀ i,i≤n→(zj g0 (N.take i)).size=z+(iR (N.take i):Int) from fun i _=>by rw[vI,← hg0]);have rU:=zh (show TG=(0,zj g0 N) from by rw[← hg0];exact jt.out);have M9:=zh (show zj g0 (N.take 0)=⟨gn,rv,1,z,⟨f,L,G⟩⟩ from by rw[← hg0];rfl);have EG:=zh (show (zj g0 N).num=gn∧(zj g0 N).rev=rv∧(zj g0 N).mode=1 from by rw[← hg0];exact qi N _);have Tz:=zh (show ∀ i,i<n→(xQ es i).1.ok from FO.out);clear jt jb Bj hg0 JI M6 M5 sX FO;obtain ⟨x0,x1,x2,x3,x4,x5,x6,x7,x8,x9,gq,gu,gj,gl⟩:=nX.out.q;go_wp2_with fail
   go_loopw [8] (fun iv W=>∃ (i:Nat) (si:Sl),iv=.int .i64 (i:Int)∧i≤n∧Hid (eO W w.heap.size gn rv 1 (zj g0 (N.take i)).size si (zj g0 (N.take i)).m.live (zj g0 (N.take i)).m.d_)∧Hid (eU W (w.heap.size+2) s f si (zj g0 (N.take i)).m.st)∧Hid (eO W (w.heap.size+1) 0 0 0 0 Sl.nil 0 0)∧Hid (Below w.heap.size w W)) (fun iv _=>n-(intOf iv).toNat)
   case atStart=>exact ⟨0,s,rfl,aq _,by rw[M9.out];exact nX,by rw[M9.out];exact zh (eU.refl _ _ _ _),jF,k_⟩
   obtain ⟨i,si,rfl,hi,oL,Av,Di,iO⟩:=hrel;clear nX jF k_;rename_i wr0
   by_cases hlt:i<n
   ·
    have i1:(i:Int)<(n:Int):=by omega
    obtain ⟨b,off,rfl,lq,c0,c1,c2,c3⟩:=(iq.out.below iO.out).at hlt;have JK:=oT.out i hi;have AY:=zh (GH.out i hi);have pK:=zh (JM.out i hlt);have PW:=Ty.out i hi;have hok:=Tz.out i hlt;have oC:=zh (Av.out.rd EF.out iO.out);generalize xQ es i=X at c0 c1 c2 c3 lq pK hok;obtain ⟨x,xv⟩:=X;dsimp only at c0 c1 c2 c3 lq pK hok;obtain ⟨xa,xc,rfl,hx1,hx2⟩:=lq.fK;have JJ:x.data.length≤4096:=hok.1;have JL:=zh (fun W=>Xb x.data.length W (ak JJ (by decide)));clear lq hok;have hxz:=xj x.data.length;obtain ⟨W1,hW1⟩:∃ W1,wr.alloc (.cells (M2 x (.slice xa x.data.length xc)) 56)=W1:=⟨_,rfl⟩
    have lC:=Tt wr x (.slice xa x.data.length xc);have nk:=BV.new wr x (.slice xa x.data.length xc);rw[hW1] at lC nk;have HD:=zh nk;have fV:=zh lC;clear lC nk;have lD:=zh (oL.out.below fV.out);have rD:=zh (Di.out.below fV.out);have rV:=zh (oC.out.below fV.out);have jT:=zh (zA iO.out fV.out);have hwr:=Di.out.lt;have hws:=fV.out.size;go_upto_region 18 with fail;clear hW1 c0 c1 c2 c3 oL Di iO oC;obtain ⟨d0,d1,d2,d3⟩:=HD.out.q;generalize hm:x.data.length=m at *;have Hm:=zh hm;clear hm;go_wp2_with fail;refine (JL.out _).mono ?_;rintro e w3 ⟨rfl,rfl⟩;generalize TA:zj g0 (N.take i)=gi at *;clear TA;obtain ⟨an,ar,am,az,⟨af,aL,aG⟩⟩:=gi;dsimp only at *;clear x0 x1 x2 x3 x4 x5 x6 x7 x8 x9 gq gu gj gl;have x4:=lD.out.c0;have x5:=lD.out.c1;have x6:=lD.out.c2;have x7:=lD.out.c3;have x8:=lD.out.c4;have x9:=lD.out.c5;have gq:=lD.out.c6
    have gu:=lD.out.c7;have gj:=lD.out.cl;have gl:=lD.out.cg;have x3:=lD.out.n3;have xf:=lD.out.f;have hz3:0≤az∧az≤50000000:=by omega
    obtain ⟨PX,Ir⟩:=hz3;clear PW JK
    cases il:x.del
    ·
     rw[il] at d2;have HP:=zh (zJR si ⟨af,aL,aG⟩ ⟨(x.key:Int),(x.ck:Int),az,(m:Int)⟩ W1 rV.out AY.out)
     have pV:=zh (show zj g0 (N.take (i+1))=⟨an,ar,am,az+(eN m:Nat),wV ⟨af,aL,aG⟩ ⟨(x.key:Int),(x.ck:Int),az,(m:Int)⟩⟩ by
      rw[pK.out];unfold yS Cx;rw[il,Hm.out];rfl)
     clear pK;generalize wV ⟨af,aL,aG⟩ ⟨(x.key:Int),(x.ck:Int),az,(m:Int)⟩=M4 at *;obtain ⟨bf,bL,bG⟩:=M4;dsimp only at HP;go_wp2_with fail;refine (HP.out).mono ?_;rintro e w5 ⟨⟨s4,rfl,ho⟩,hb4⟩;have jN:=zh (Av.out.step ho (zA fV.out hb4) (by omega));have fJ:=zh (lD.out.below hb4);have jx:=zh (rD.out.below hb4);have gH:=zh (zA jT.out hb4);clear x3 x4 x5 x6 x7 x8 x9 gq gu gj gl xf;clear d0 d1 d2 d3 lD rD jT rV HD Av;have x4:=fJ.out.c0;have x5:=fJ.out.c1;have x6:=fJ.out.c2;have x7:=fJ.out.c3;have x8:=fJ.out.c4;have x9:=fJ.out.c5;have gq:=fJ.out.c6;have gu:=fJ.out.c7;have gj:=fJ.out.cl;have gl:=fJ.out.cg;have x3:=fJ.out.n3;have xf:=fJ.out.f;go_upto_region 22 with fail;change Code.wp _ _ _ _ (pts w5 w.heap.size (yu s4 bL bG));have iQ:=zh (fJ.out.map s4 bL bG)
     have BW:=zh (jx.out.eE (show w.heap.size+1≠w.heap.size by omega) (yu s4 bL bG));have iZ:=zh (zD (B:=w.heap.size) (b:=w.heap.size) (ag _) (yu s4 bL bG) gH.out);have nr:=zh (jN.out.pts (show w.heap.size<w.heap.size+2 by omega) (yu s4 bL bG));generalize pts w5 w.heap.size (yu s4 bL bG)=w6 at *;clear fJ jx gH jN x3 x4 x5 x6 x7 x8 x9 gq gu gj gl xf;have x3:=iQ.out.n3;have xf:=iQ.out.f;go_upto_region 16 with fail;change Code.wp _ _ _ _ (pts w6 w.heap.size [(3,.int .i64 (az+(eN m:Nat)))]);have jd:=zh (iQ.out.Gr (az+(eN m:Nat)));have JN:=zh (BW.out.eE (show w.heap.size+1≠w.heap.size by omega) [(3,.int .i64 (az+(eN m:Nat)))]);have sY:=zh (zD (B:=w.heap.size) (b:=w.heap.size) (ag _) [(3,.int .i64 (az+(eN m:Nat)))] iZ.out);have Cv:=zh (nr.out.pts (show w.heap.size<w.heap.size+2 by omega) [(3,.int .i64 (az+(eN m:Nat)))])
     generalize pts w6 w.heap.size [(3,.int .i64 (az+(eN m:Nat)))]=w7 at *;clear iQ BW iZ nr x3 xf;go_wp2_with fail
     go_roundw
     case rel =>
      refine ⟨i+1,s4,by go_num,by omega,?_,?_,JN,sY⟩
      ·
       rw[pV.out];exact jd
      rw[pV.out];exact Cv
     case measure=>simp[intOf];omega
    rw[il] at d2;have HP:=zh (YH si ⟨af,aL,aG⟩ (x.key:Int) W1 rV.out AY.out)
    have pV:=zh (show zj g0 (N.take (i+1))=⟨an,ar,am,az+(eN m:Nat),xF (yP ⟨af,aL,aG⟩ (x.key:Int)) (eN m:Nat)⟩ by
     rw[pK.out];unfold yS;rw[il,Hm.out];rfl)
    have M_:=zh (fun j hj=>ak (qF ⟨af,aL,aG⟩ (x.key:Int) AY.out j hj) (show 9000≤10000 by decide));clear pK;generalize yP ⟨af,aL,aG⟩ (x.key:Int)=M3 at *;obtain ⟨df,dL,dG⟩:=M3;dsimp only at HP;go_wp2_with fail;refine (HP.out).mono ?_;rintro e w4 ⟨⟨s4,rfl,ho⟩,hb4⟩;have FP:=zh (zDi s4 ⟨df,dL,dG⟩ (eN m:Nat) w4 (ho.rd rV.out hb4) M_.out);have YY:=zh (uU ⟨df,dL,dG⟩ (eN m:Nat));have jM:=zh (Av.out.step ho (zA fV.out hb4) (by omega));clear ho;generalize xF ⟨df,dL,dG⟩ (eN m:Nat)=M4 at *;obtain ⟨bf,bL,bG⟩:=M4;dsimp only at FP YY;go_wp2_with fail;refine (FP.out).mono ?_;rintro e w5 ⟨rfl,hb5⟩;replace hb4:=zA hb4 hb5;have jN:=zh ((jM.out.keep hb5).MU (fun i _=>congrFun YY.out i));have fJ:=zh (lD.out.below hb4);have jx:=zh (rD.out.below hb4);have gH:=zh (zA jT.out hb4);clear x3 x4 x5 x6 x7 x8 x9 gq gu gj gl xf
    clear d0 d1 d2 d3 lD rD jT rV HD Av;have x4:=fJ.out.c0;have x5:=fJ.out.c1;have x6:=fJ.out.c2;have x7:=fJ.out.c3;have x8:=fJ.out.c4;have x9:=fJ.out.c5;have gq:=fJ.out.c6;have gu:=fJ.out.c7;have gj:=fJ.out.cl;have gl:=fJ.out.cg;have x3:=fJ.out.n3;have xf:=fJ.out.f;go_upto_region 22 with fail;change Code.wp _ _ _ _ (pts w5 w.heap.size (yu s4 bL bG));have iQ:=zh (fJ.out.map s4 bL bG);have BW:=zh (jx.out.eE (show w.heap.size+1≠w.heap.size by omega) (yu s4 bL bG));have iZ:=zh (zD (B:=w.heap.size) (b:=w.heap.size) (ag _) (yu s4 bL bG) gH.out);have nr:=zh (jN.out.pts (show w.heap.size<w.heap.size+2 by omega) (yu s4 bL bG));generalize pts w5 w.heap.size (yu s4 bL bG)=w6 at *;clear fJ jx gH jN x3 x4 x5 x6 x7 x8 x9 gq gu gj gl xf;have x3:=iQ.out.n3;have xf:=iQ.out.f;go_upto_region 16 with fail
    change Code.wp _ _ _ _ (pts w6 w.heap.size [(3,.int .i64 (az+(eN m:Nat)))]);have jd:=zh (iQ.out.Gr (az+(eN m:Nat)));have JN:=zh (BW.out.eE (show w.heap.size+1≠w.heap.size by omega) [(3,.int .i64 (az+(eN m:Nat)))]);have sY:=zh (zD (B:=w.heap.size) (b:=w.heap.size) (ag _) [(3,.int .i64 (az+(eN m:Nat)))] iZ.out);have Cv:=zh (nr.out.pts (show w.heap.size<w.heap.size+2 by omega) [(3,.int .i64 (az+(eN m:Nat)))]);generalize pts w6 w.heap.size [(3,.int .i64 (az+(eN m:Nat)))]=w7 at *;clear iQ BW iZ nr x3 xf;go_wp2_with fail
    go_roundw
    case rel =>
     refine ⟨i+1,s4,by go_num,by omega,?_,?_,JN,sY⟩
     ·
      rw[pV.out];exact jd
     rw[pV.out];exact Cv
    case measure=>simp[intOf];omega
   have hin:i=n:=by omega
   rw[hin,mP.out] at oL Av;rw[hin];clear hin hi;obtain ⟨Da,mK,Ij⟩:=EG.out;generalize TB:zj g0 N=gA at *;obtain ⟨an,ar,am,az,⟨af,aL,aG⟩⟩:=gA;dsimp only at oL Av Da mK Ij rU;subst Da mK Ij;clear TB;obtain ⟨x0,x1,x2,x3,x4,x5,x6,x7,x8,x9,gq,gu,gj,gl⟩:=oL.out.q;obtain ⟨r0,r1,r2,r3,r4,r5,r6,r7,r8,r9,mW,mC,nB,oJ⟩:=Di.out.q;have rf:=Di.out.f;go_wp2_with fail;change bodyPost _ _ _ _ _ (pts wr (w.heap.size+1) (zQ an ar 1 az si aL aG));have hby:=Di.out.all an ar 1 az si aL aG;have eD:=zh (zD (B:=w.heap.size) (b:=(w.heap.size+1)) (by omega) (zQ an ar 1 az si aL aG) iO.out);have gW:=(Av.out.pts (show w.heap.size+1<w.heap.size+2 by omega) (zQ an ar 1 az si aL aG)).mono (show w.heap.size≤w.heap.size+2 by omega);rw[rU.out];generalize pts wr (w.heap.size+1) (zQ an ar 1 az si aL aG)=V at *
   exact au (v:=.tuple #[zd an ar 1 az si aL aG,.int .i64 0]) (by simp[results,Tryz.results43,go_sem,hby.q]) rfl ⟨⟨_,rfl,gW⟩,eD.out⟩
  have jt:=zh (show TG=(9,ix) by rw[j_.out,ah nU,ai hfit]);have e2:decide (1048576<z+(iR N:Int))=true:=by simp;omega
  clear j_;obtain ⟨x0,x1,x2,x3,x4,x5,x6,x7,x8,x9,gq,gu,gj,gl⟩:=nX.out.q;obtain ⟨r0,r1,r2,r3,r4,r5,r6,r7,r8,r9,mW,mC,nB,oJ⟩:=jF.out.q;have rf:=jF.out.f;go_wp2_with fail;change bodyPost _ _ _ _ _ (pts wr (w.heap.size+1) (zQ 0 0 0 0 Sl.nil 0 0));have hby:=jF.out.all 0 0 0 0 Sl.nil 0 0;have eD:=zh (zD (B:=w.heap.size) (b:=(w.heap.size+1)) (by omega) (zQ 0 0 0 0 Sl.nil 0 0) k_.out);have gW:=jf.out (pts wr (w.heap.size+1) (zQ 0 0 0 0 Sl.nil 0 0));rw[jt.out];generalize pts wr (w.heap.size+1) (zQ 0 0 0 0 Sl.nil 0 0)=V at *;exact au (v:=.tuple #[zd 0 0 0 0 Sl.nil 0 0,.int .i64 9]) (by simp[results,Tryz.results43,go_sem,hby.q]) rfl ⟨⟨_,rfl,gW⟩,eD.out⟩
 have jt:=zh (show TG=(12,ix) by rw[j_.out,ai nU]);have e1:(md==1)=false:=beq_eq_false_iff_ne.2 nU;clear j_;obtain ⟨x0,x1,x2,x3,x4,x5,x6,x7,x8,x9,gq,gu,gj,gl⟩:=nX.out.q;obtain ⟨r0,r1,r2,r3,r4,r5,r6,r7,r8,r9,mW,mC,nB,oJ⟩:=jF.out.q;have rf:=jF.out.f;go_wp2_with fail;change bodyPost _ _ _ _ _ (pts wr (w.heap.size+1) (zQ 0 0 0 0 Sl.nil 0 0));have hby:=jF.out.all 0 0 0 0 Sl.nil 0 0;have eD:=zh (zD (B:=w.heap.size) (b:=(w.heap.size+1)) (by omega) (zQ 0 0 0 0 Sl.nil 0 0) k_.out);have gW:=jf.out (pts wr (w.heap.size+1) (zQ 0 0 0 0 Sl.nil 0 0));rw[jt.out];generalize pts wr (w.heap.size+1) (zQ 0 0 0 0 Sl.nil 0 0)=V at *;exact au (v:=.tuple #[zd 0 0 0 0 Sl.nil 0 0,.int .i64 12]) (by simp[results,Tryz.results43,go_sem,hby.q]) rfl ⟨⟨_,rfl,gW⟩,eD.out⟩
end Go.Proofs.YtcgfilmmokmdjaaGreat
