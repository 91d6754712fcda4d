import Derived.Test.YtcgfilmmokmdjaaGreatQAL
set_option linter.all false
set_option maxRecDepth 100000
set_option maxHeartbeats 32000000
namespace Go.Proofs.YtcgfilmmokmdjaaGreat
open Go.Proofs.Tryz
open Go.RowKit
def zNG (l:List Nd):jt l<=l.length*4127:=by
 induction l with
 |nil=>exact aq _
 |cons x r ih =>
  have:=wI x.data.length;rw[vj,aW,cV];omega
def zCU {es:List (Nd×Value)} {i:Nat} (h:i<es.length):(es.map (·.1)).take (i+1)=(es.map (·.1)).take i++[(yw es i).1]:=by
 rw[cQ,b_,aA h];unfold yw;rw[aw,aA h]
 rfl
def qD (l:List Nd):Fm l=true↔∀ x∈l,x.ok:=by
 unfold Fm;rw[dE];exact ⟨fun h x hx=>aZ (h x hx),fun h x hx=>aD (h x hx)⟩
def WA (g:Gn) (s:Sl) (v:Value) (es:List (Nd×Value)) (K:Nat) (w:World) (h:fN w s g.m.st) (hs:∀ i,i<8->(g.m.st i).length<=K) (hr:mJ w v es) (hK:K+es.length<=9000) (iz:∀ p∈es,p.1.data.length<=1000000) :
  Calls prog 43 #[ze g.num g.rev g.mode g.size s g.m.live g.m.ew,v] w (Pr w s g.m.st (yZ g (es.map (·.1)))):=by
 obtain ⟨va,vc,rfl,Ai,hv2⟩:=hr.shape;have Fy:∀ i,i<8->(g.m.st i).length<=10000:=fun i hi=>ak (hs i hi) (by omega)
 have HV:=zh (fun W (hb:Below w.heap.size w W)=>uX g s W (h.bb hb) Fy);have iw:=zh hr;have Gq:=zh h;have jC:Hid (∀ W,fl W w.heap.size s g.m.st Sl.nil gX.m.st):=zh (fun W=>fl.nil W _ _ _);have HG:Hid (yZ g (es.map (·.1))=if we g=true/\Fm (es.map (·.1))=true then (if g.mode=1 then (if g.size+(jt (es.map (·.1)):Int)<=1048576 then (0,zm g (es.map (·.1))) else (9,gX)) else (12,gX)) else (1,gX)):=zh (rfl);have jb:Hid (we g=true->16<=g.size/\g.size<=1048576):=zh (fun hv=>⟨((yM g).1 hv).size.1,((yM g).1 hv).size.2.1⟩);have jJ:=zh (fun i (hi:i<=es.length)=>ws ((es.map (·.1)).take i) g hs);have Bb:=zh (fun i (hi:i<es.length)=>iz _ (vh hi));have C0:=zh (fun i (hi:i<es.length)=>@zCU es i hi)
 have rB:=zh (show ∀ i,i<=es.length->jt ((es.map (·.1)).take i)<=9000*4127 from fun i hi=>by
  have h1:=zNG ((es.map (·.1)).take i)
  have h2:((es.map (·.1)).take i).length<=9000:=by rw[aB];omega
  have:=aX 4127 h2
  omega)
 have LW:=zh (qD (es.map (·.1)));have Py:Hid (∀ i,i<es.length->(yw es i).1∈es.map (·.1)):=zh (fun i hi=>cB (vh hi));have nN:Hid ((es.map (·.1)).take es.length=es.map (·.1)):=zh (aS (by rw[aH];omega))
 have Pz:=zh (show (∀ j,j<es.length->(yw es j).1.ok)->∀ x∈es.map (·.1),x.ok from fun hh x hx=>by
  obtain ⟨p,hp,rfl⟩:=List.mem_map.1 hx
  obtain ⟨j,hj,rfl⟩:=cO hp
  have:=hh j hj
  unfold yw at this
  rw[aw,aA hj] at this
  exact this)
 clear hr h hs Fy iz;generalize hN:es.map (·.1)=N at *;generalize hnn:es.length=n at *;have WB:=zh hnn;clear hnn hN;obtain ⟨gn,rv,md,z,⟨f,L,G⟩⟩:=g;generalize rh:(⟨gn,rv,md,z,⟨f,L,G⟩⟩:Gn)=g at *;have WC:=zh rh;obtain ⟨W,hW,fJ,hbr,fS⟩:=vS w gn rv md z s L G 113;have HX:=zh fJ;have HR:=zh hbr;have HB:=zh fS;clear fJ hbr fS;generalize yZ g N=TG at *;generalize we g=vb at *;subst rh;dsimp only at *
 go_enter func43,ntmps43
 go_upto_region 1 with fail;change Code.wp _ _ _ _ ((w.alloc (.cells (zU gn rv md z s L G) 113)).alloc (.cells (zU 0 0 0 0 Sl.nil 0 0) 113));rw[hW];clear hW;obtain ⟨x0,x1,x2,x3,x4,x5,x6,x7,x8,x9,gP,gQ,gK,gM⟩:=HX.o.q;go_wp2_with fail;refine (HV.o _ HB.o).mono ?_;rintro e w1 ⟨rfl,hb1⟩;have fG:=zh (HX.o.bb hb1);have fL:=zh (HR.o.bb hb1);have eV:=zh (zA HB.o hb1);have hlr:w.heap.size+1<W.heap.size:=HR.o.lt;clear x0 x1 x2 x3 x4 x5 x6 x7 x8 x9 gP gQ gK gM;clear hb1 HX HR HB HV
 cases vb
 ·have jM:=zh (show TG=(1,gX) by rw[HG.o,ai (fun h=>by cases h.1)]);obtain ⟨r0,r1,r2,r3,r4,r5,r6,r7,r8,r9,nL,mD,mR,pK⟩:=fL.o.q;have rf:=fL.o.f;go_wp2_with fail;change bodyPost _ _ _ _ _ (pts w1 (w.heap.size+1) (zS 0 0 0 0 Sl.nil 0 0));have hby:=fL.o.all 0 0 0 0 Sl.nil 0 0;have eN:=zh (zC (B:=w.heap.size) (b:=(w.heap.size+1)) (by omega) (zS 0 0 0 0 Sl.nil 0 0) eV.o);have iH:=jC.o (pts w1 (w.heap.size+1) (zS 0 0 0 0 Sl.nil 0 0));rw[jM.o];generalize pts w1 (w.heap.size+1) (zS 0 0 0 0 Sl.nil 0 0)=V at *;exact au (v:=.tuple #[ze 0 0 0 0 Sl.nil 0 0,.int .i64 1]) (by simp[results,results43,go_sem,hby.q]) rfl ⟨⟨_,rfl,iH⟩,eN.o⟩
 obtain ⟨hz1,hz2⟩:=jb.o rfl;obtain ⟨x0,x1,x2,x3,x4,x5,x6,x7,x8,x9,gP,gQ,gK,gM⟩:=fG.o.q;go_wp2_with fail
 go_loopw [6,7] (fun sv iv W=>∃ i:Nat,iv=.int .i64 (i:Int)/\sv=.int .i64 (z+(jt (N.take i):Int))/\i<=n/\Hid (∀ j,j<i->(yw es j).1.ok)/\Hid (eU W w.heap.size gn rv md z s L G)/\Hid (eU W (w.heap.size+1) 0 0 0 0 Sl.nil 0 0)/\Hid (Below w.heap.size w W)) (fun _ iv _=>n-(intOf iv).toNat)
 case atStart=>exact ⟨0,rfl,by simp[jt],aq _,zh (fun j hj=>by omega),fG,fL,eV⟩
 obtain ⟨i,rfl,rfl,hi,AQ,pM,lF,jI⟩:=hrel;clear fG fL eV;have hal:=rB.o i hi
 by_cases hlt:i<n
 ·obtain ⟨b,off,rfl,lj,c0,c1,c2,c3⟩:=(iw.o.bb jI.o).at hlt;have LX:=Bb.o i hlt;have SZ:=zh (C0.o i hlt);have WD:=zh (Py.o i hlt)
  have Cr:=zh (show (yw es i).1.ok->∀ j,j<i+1->(yw es j).1.ok from fun ho j hj=>by
   by_cases e:j=i
   ·subst e;exact ho
   exact AQ.o j (by omega))
  have LY:=rB.o (i+1) hlt;generalize yw es i=X at c0 c1 c2 c3 lj LX SZ WD Cr;obtain ⟨x,xv⟩:=X;dsimp only at c0 c1 c2 c3 lj LX SZ WD Cr;obtain ⟨xa,xc,rfl,hx1,hx2⟩:=lj.fO;have BK:=zh (fun W=>tR x xa xc W);have LZ:=zh (fun W=>UQ x.data.length W LX);rw[SZ.o,SI] at LY;have i1:(i:Int)<(n:Int):=by omega
  clear lj
  by_cases hok:x.ok
  ·rw[aD hok] at BK;go_wp2_with fail;refine (BK.o _).mono ?_;rintro e w2 ⟨rfl,hb2⟩;have c3':=hb2.keeps' c3;have fK:=zh (pM.o.bb hb2);have iq:=zh (lF.o.bb hb2);have eX:=zh (zA jI.o hb2);clear hb2 c0 c1 c2 c3 pM lF jI;generalize hm:x.data.length=m at *;have Hm:=zh hm;clear hm;go_wp2_with fail;refine (LZ.o _).mono ?_;rintro e w3 ⟨rfl,rfl⟩;go_wp2_with fail
   go_roundw
   case rel=>exact ⟨i+1,by go_num,by rw[SZ.o,SI,Hm.o,dO,Int.add_assoc],by omega,zh (Cr.o hok),fK,iq,eX⟩
   case measure=>simp[intOf];omega
  have jM:=zh (show TG=(1,gX) by rw[HG.o,ai (fun h=>hok (LW.o.1 h.2 x WD.o))]);rw[aC hok] at BK;go_wp2_with fail;refine (BK.o _).mono ?_;rintro e w2 ⟨rfl,hb2⟩;have fK:=zh (pM.o.bb hb2);have iq:=zh (lF.o.bb hb2);have eX:=zh (zA jI.o hb2);clear hb2 c0 c1 c2 c3 pM lF jI;obtain ⟨r0,r1,r2,r3,r4,r5,r6,r7,r8,r9,nL,mD,mR,pK⟩:=iq.o.q;have rf:=iq.o.f;go_wp2_with fail;change bodyPost _ _ _ _ _ (pts w2 (w.heap.size+1) (zS 0 0 0 0 Sl.nil 0 0));have hby:=iq.o.all 0 0 0 0 Sl.nil 0 0;have eN:=zh (zC (B:=w.heap.size) (b:=(w.heap.size+1)) (by omega) (zS 0 0 0 0 Sl.nil 0 0) eX.o);have iH:=jC.o (pts w2 (w.heap.size+1) (zS 0 0 0 0 Sl.nil 0 0));rw[jM.o];generalize pts w2 (w.heap.size+1) (zS 0 0 0 0 Sl.nil 0 0)=V at *
  exact au (v:=.tuple #[ze 0 0 0 0 Sl.nil 0 0,.int .i64 1]) (by simp[results,results43,go_sem,hby.q]) rfl ⟨⟨_,rfl,iH⟩,eN.o⟩
 have hin:i=n:=by omega
 have IJ:Hid (∀ j,j<n->(yw es j).1.ok):=zh (hin▸AQ.o);clear AQ;rw[hin,nN.o] at hal;rw[hin,nN.o];clear hin hi;have PA:Fm N=true:=LW.o.2 (Pz.o IJ.o);have lW:=zh (show TG=(if md=1 then (if z+(jt N:Int)<=1048576 then (0,zm ⟨gn,rv,md,z,⟨f,L,G⟩⟩ N) else (9,gX)) else (12,gX)) by rw[HG.o,ah ⟨trivial,PA⟩]);clear HG PA
 by_cases pF:md=1
 ·have e1:(md==1)=true:=by rw[pF];rfl
  by_cases hfit:z+(jt N:Int)<=1048576
  ·have jM:=zh (show TG=(0,zm ⟨gn,rv,md,z,⟨f,L,G⟩⟩ N) by rw[lW.o,ah pF,ah hfit]);have e2:decide (1048576<z+(jt N:Int))=false:=by simp;omega
   clear lW;have akE:=pF;subst pF;obtain ⟨g0,hg0⟩:∃ g0:Gn,(⟨gn,rv,1,z,⟨f,L,G⟩⟩:Gn)=g0:=⟨_,rfl⟩
   have Jy:=zh (show ∀ i,i<=n->∀ j,j<8->((zm g0 (N.take i)).m.st j).length<=9000 from fun i hi j hj=>by
    have h1:=jJ.o i hi j hj
    have h2:(N.take i).length<=n:=by rw[aB];omega
    rw[<- hg0];omega)
   have L9:Hid (∀ i,i<n->zm g0 (N.take (i+1))=yp (zm g0 (N.take i)) (yw es i).1):=zh (fun i hi=>by rw[C0.o i hi,zBV]);have WE:Hid (∀ i,i<=n->(zm g0 (N.take i)).size=z+(jt (N.take i):Int)):=zh (fun i _=>by rw[vm,<- hg0]);have Am:Hid (TG=(0,zm g0 N)):=zh (by rw[<- hg0];exact jM.o);have PB:Hid (zm g0 (N.take 0)=⟨gn,rv,1,z,⟨f,L,G⟩⟩):=zh (by rw[<- hg0];rfl);have Gr:Hid ((zm g0 N).num=gn/\(zm g0 N).rev=rv/\(zm g0 N).mode=1):=zh (by rw[<- hg0];exact kW N _);have WG:Hid (∀ i,i<n->(yw es i).1.ok):=zh (IJ.o);clear jM jJ C0 hg0 LW Pz Py Bb IJ;obtain ⟨x0,x1,x2,x3,x4,x5,x6,x7,x8,x9,gP,gQ,gK,gM⟩:=pM.o.q;go_wp2_with fail
   go_loopw [8] (fun iv W=>∃ (i:Nat) (si:Sl),iv=.int .i64 (i:Int)/\i<=n/\Hid (eU W w.heap.size gn rv 1 (zm g0 (N.take i)).size si (zm g0 (N.take i)).m.live (zm g0 (N.take i)).m.ew)/\Hid (fl W (w.heap.size+2) s f si (zm g0 (N.take i)).m.st)/\Hid (eU W (w.heap.size+1) 0 0 0 0 Sl.nil 0 0)/\Hid (Below w.heap.size w W)) (fun iv _=>n-(intOf iv).toNat)
   case atStart=>exact ⟨0,s,rfl,aq _,by rw[PB.o];exact pM,by rw[PB.o];exact zh (fl.refl _ _ _ _),lF,jI⟩
   obtain ⟨i,si,rfl,hi,D8,C1,EJ,ic⟩:=hrel;clear pM lF jI;rename_i wr0
   by_cases hlt:i<n
   ·have i1:(i:Int)<(n:Int):=by omega
    obtain ⟨b,off,rfl,lj,c0,c1,c2,c3⟩:=(iw.o.bb ic.o).at hlt;have LY:=rB.o i hi;have D4:=zh (Jy.o i hi);have rC:=zh (L9.o i hlt);have S0:=WE.o i hi;have hok:=WG.o i hlt;have mH:=zh (C1.o.rd Gq.o ic.o);generalize yw es i=X at c0 c1 c2 c3 lj rC hok;obtain ⟨x,xv⟩:=X;dsimp only at c0 c1 c2 c3 lj rC hok;obtain ⟨xa,xc,rfl,hx1,hx2⟩:=lj.fO;have LX:x.data.length<=4096:=hok.1;have LZ:=zh (fun W=>UQ x.data.length W (ak LX (by decide)));clear lj hok;have hxz:=wI x.data.length;obtain ⟨W1,hW1⟩:∃ W1,wr.alloc (.cells (Jw x (.slice xa x.data.length xc)) 56)=W1:=⟨_,rfl⟩
    have mU:=qH wr x (.slice xa x.data.length xc);have lu:=Bf.new wr x (.slice xa x.data.length xc);rw[hW1] at mU lu;have HD:=zh lu;have fH:=zh mU;clear mU lu;have mo:=zh (D8.o.bb fH.o);have sX:=zh (EJ.o.bb fH.o);have Ao:=zh (mH.o.bb fH.o);have jZ:=zh (zA ic.o fH.o);have hwr:=EJ.o.lt;have hws:=fH.o.size;go_upto_region 18 with fail;clear hW1 c0 c1 c2 c3 D8 EJ ic mH;obtain ⟨d0,d1,d2,d3⟩:=HD.o.q;generalize hm:x.data.length=m at *;have Hm:=zh hm;clear hm;go_wp2_with fail;refine (LZ.o _).mono ?_;rintro e w3 ⟨rfl,rfl⟩;generalize WH:zm g0 (N.take i)=gi at *;clear WH;obtain ⟨an,ar,am,az,⟨af,aL,aG⟩⟩:=gi;dsimp only at *;clear x0 x1 x2 x3 x4 x5 x6 x7 x8 x9 gP gQ gK gM;have x4:=mo.o.c0;have x5:=mo.o.c1;have x6:=mo.o.c2;have x7:=mo.o.c3;have x8:=mo.o.c4;have x9:=mo.o.c5;have gP:=mo.o.c6
    have gQ:=mo.o.c7;have gK:=mo.o.cl;have gM:=mo.o.cg;have x3:=mo.o.n3;have xf:=mo.o.f;have hz3:0<=az/\az<=50000000:=by omega
    obtain ⟨S1,Kv⟩:=hz3;clear S0 LY
    cases iz:x.del
    ·rw[iz] at d2;have HP:=zh (zK1 si ⟨af,aL,aG⟩ ⟨(x.key:Int),(x.ck:Int),az,(m:Int)⟩ W1 Ao.o D4.o)
     have sJ:=zh (show zm g0 (N.take (i+1))=⟨an,ar,am,az+(eY m:Nat),wv ⟨af,aL,aG⟩ ⟨(x.key:Int),(x.ck:Int),az,(m:Int)⟩⟩ by
      rw[rC.o];unfold yp DZ;rw[iz,Hm.o];rfl)
     clear rC;generalize wv ⟨af,aL,aG⟩ ⟨(x.key:Int),(x.ck:Int),az,(m:Int)⟩=M4 at *;obtain ⟨bf,bL,bG⟩:=M4;dsimp only at HP;go_wp2_with fail;refine (HP.o).mono ?_;rintro e w5 ⟨⟨s4,rfl,ho⟩,hb4⟩;have jA:=zh (C1.o.step ho (zA fH.o hb4) (by omega));have gj:=zh (mo.o.bb hb4);have jN:=zh (sX.o.bb hb4);have gW:=zh (zA jZ.o hb4);clear x3 x4 x5 x6 x7 x8 x9 gP gQ gK gM xf;clear d0 d1 d2 d3 mo sX jZ Ao HD C1;have x4:=gj.o.c0;have x5:=gj.o.c1;have x6:=gj.o.c2;have x7:=gj.o.c3;have x8:=gj.o.c4;have x9:=gj.o.c5;have gP:=gj.o.c6;have gQ:=gj.o.c7;have gK:=gj.o.cl;have gM:=gj.o.cg;have x3:=gj.o.n3;have xf:=gj.o.f;go_upto_region 22 with fail;change Code.wp _ _ _ _ (pts w5 w.heap.size (xN s4 bL bG));have jr:=zh (gj.o.map s4 bL bG)
     have Dq:=zh (jN.o.eL (show w.heap.size+1≠w.heap.size by omega) (xN s4 bL bG));have jH:=zh (zC (B:=w.heap.size) (b:=w.heap.size) (ag _) (xN s4 bL bG) gW.o);have o7:=zh (jA.o.pts (show w.heap.size<w.heap.size+2 by omega) (xN s4 bL bG));generalize pts w5 w.heap.size (xN s4 bL bG)=w6 at *;clear gj jN gW jA x3 x4 x5 x6 x7 x8 x9 gP gQ gK gM xf;have x3:=jr.o.n3;have xf:=jr.o.f;go_upto_region 16 with fail;change Code.wp _ _ _ _ (pts w6 w.heap.size [(3,.int .i64 (az+(eY m:Nat)))]);have jQ:=zh (jr.o.Jq (az+(eY m:Nat)));have L_:=zh (Dq.o.eL (show w.heap.size+1≠w.heap.size by omega) [(3,.int .i64 (az+(eY m:Nat)))]);have AO:=zh (zC (B:=w.heap.size) (b:=w.heap.size) (ag _) [(3,.int .i64 (az+(eY m:Nat)))] jH.o);have Dk:=zh (o7.o.pts (show w.heap.size<w.heap.size+2 by omega) [(3,.int .i64 (az+(eY m:Nat)))])
     generalize pts w6 w.heap.size [(3,.int .i64 (az+(eY m:Nat)))]=w7 at *;clear jr Dq jH o7 x3 xf;go_wp2_with fail
     go_roundw
     case rel =>
      refine ⟨i+1,s4,by go_num,by omega,?_,?_,L_,AO⟩
      ·rw[sJ.o];exact jQ
      rw[sJ.o];exact Dk
     case measure=>simp[intOf];omega
    rw[iz] at d2;have HP:=zh (zEz si ⟨af,aL,aG⟩ (x.key:Int) W1 Ao.o D4.o)
    have sJ:=zh (show zm g0 (N.take (i+1))=⟨an,ar,am,az+(eY m:Nat),xS (yX ⟨af,aL,aG⟩ (x.key:Int)) (eY m:Nat)⟩ by
     rw[rC.o];unfold yp;rw[iz,Hm.o];rfl)
    have PD:=zh (fun j hj=>ak (qw ⟨af,aL,aG⟩ (x.key:Int) D4.o j hj) (show 9000<=10000 by decide));clear rC;generalize yX ⟨af,aL,aG⟩ (x.key:Int)=M3 at *;obtain ⟨df,dL,dG⟩:=M3;dsimp only at HP;go_wp2_with fail;refine (HP.o).mono ?_;rintro e w4 ⟨⟨s4,rfl,ho⟩,hb4⟩;have IK:=zh (zEv s4 ⟨df,dL,dG⟩ (eY m:Nat) w4 (ho.rd Ao.o hb4) PD.o);have HWt:=zh (uu ⟨df,dL,dG⟩ (eY m:Nat));have iP:=zh (C1.o.step ho (zA fH.o hb4) (by omega));clear ho;generalize xS ⟨df,dL,dG⟩ (eY m:Nat)=M4 at *;obtain ⟨bf,bL,bG⟩:=M4;dsimp only at IK HWt;go_wp2_with fail;refine (IK.o).mono ?_;rintro e w5 ⟨rfl,hb5⟩;replace hb4:=zA hb4 hb5;have jA:=zh ((iP.o.keep hb5).Pq (fun i _=>congrFun HWt.o i));have gj:=zh (mo.o.bb hb4);have jN:=zh (sX.o.bb hb4);have gW:=zh (zA jZ.o hb4);clear x3 x4 x5 x6 x7 x8 x9 gP gQ gK gM xf
    clear d0 d1 d2 d3 mo sX jZ Ao HD C1;have x4:=gj.o.c0;have x5:=gj.o.c1;have x6:=gj.o.c2;have x7:=gj.o.c3;have x8:=gj.o.c4;have x9:=gj.o.c5;have gP:=gj.o.c6;have gQ:=gj.o.c7;have gK:=gj.o.cl;have gM:=gj.o.cg;have x3:=gj.o.n3;have xf:=gj.o.f;go_upto_region 22 with fail;change Code.wp _ _ _ _ (pts w5 w.heap.size (xN s4 bL bG));have jr:=zh (gj.o.map s4 bL bG);have Dq:=zh (jN.o.eL (show w.heap.size+1≠w.heap.size by omega) (xN s4 bL bG));have jH:=zh (zC (B:=w.heap.size) (b:=w.heap.size) (ag _) (xN s4 bL bG) gW.o);have o7:=zh (jA.o.pts (show w.heap.size<w.heap.size+2 by omega) (xN s4 bL bG));generalize pts w5 w.heap.size (xN s4 bL bG)=w6 at *;clear gj jN gW jA x3 x4 x5 x6 x7 x8 x9 gP gQ gK gM xf;have x3:=jr.o.n3;have xf:=jr.o.f;go_upto_region 16 with fail
    change Code.wp _ _ _ _ (pts w6 w.heap.size [(3,.int .i64 (az+(eY m:Nat)))]);have jQ:=zh (jr.o.Jq (az+(eY m:Nat)));have L_:=zh (Dq.o.eL (show w.heap.size+1≠w.heap.size by omega) [(3,.int .i64 (az+(eY m:Nat)))]);have AO:=zh (zC (B:=w.heap.size) (b:=w.heap.size) (ag _) [(3,.int .i64 (az+(eY m:Nat)))] jH.o);have Dk:=zh (o7.o.pts (show w.heap.size<w.heap.size+2 by omega) [(3,.int .i64 (az+(eY m:Nat)))]);generalize pts w6 w.heap.size [(3,.int .i64 (az+(eY m:Nat)))]=w7 at *;clear jr Dq jH o7 x3 xf;go_wp2_with fail
    go_roundw
    case rel =>
     refine ⟨i+1,s4,by go_num,by omega,?_,?_,L_,AO⟩
     ·rw[sJ.o];exact jQ
     rw[sJ.o];exact Dk
    case measure=>simp[intOf];omega
   have hin:i=n:=by omega
   rw[hin,nN.o] at D8 C1;rw[hin];clear hin hi;obtain ⟨EB,nJ,Ko⟩:=Gr.o;generalize WI:zm g0 N=gA at *;obtain ⟨an,ar,am,az,⟨af,aL,aG⟩⟩:=gA;dsimp only at D8 C1 EB nJ Ko Am;subst EB nJ Ko;clear WI;obtain ⟨x0,x1,x2,x3,x4,x5,x6,x7,x8,x9,gP,gQ,gK,gM⟩:=D8.o.q;obtain ⟨r0,r1,r2,r3,r4,r5,r6,r7,r8,r9,nL,mD,mR,pK⟩:=EJ.o.q;have rf:=EJ.o.f;go_wp2_with fail;change bodyPost _ _ _ _ _ (pts wr (w.heap.size+1) (zS an ar 1 az si aL aG));have hby:=EJ.o.all an ar 1 az si aL aG;have eN:=zh (zC (B:=w.heap.size) (b:=(w.heap.size+1)) (by omega) (zS an ar 1 az si aL aG) ic.o);have iH:=(C1.o.pts (show w.heap.size+1<w.heap.size+2 by omega) (zS an ar 1 az si aL aG)).mono (show w.heap.size<=w.heap.size+2 by omega);rw[Am.o];generalize pts wr (w.heap.size+1) (zS an ar 1 az si aL aG)=V at *
   exact au (v:=.tuple #[ze an ar 1 az si aL aG,.int .i64 0]) (by simp[results,results43,go_sem,hby.q]) rfl ⟨⟨_,rfl,iH⟩,eN.o⟩
  have jM:=zh (show TG=(9,gX) by rw[lW.o,ah pF,ai hfit]);have e2:decide (1048576<z+(jt N:Int))=true:=by simp;omega
  clear lW;obtain ⟨x0,x1,x2,x3,x4,x5,x6,x7,x8,x9,gP,gQ,gK,gM⟩:=pM.o.q;obtain ⟨r0,r1,r2,r3,r4,r5,r6,r7,r8,r9,nL,mD,mR,pK⟩:=lF.o.q;have rf:=lF.o.f;go_wp2_with fail;change bodyPost _ _ _ _ _ (pts wr (w.heap.size+1) (zS 0 0 0 0 Sl.nil 0 0));have hby:=lF.o.all 0 0 0 0 Sl.nil 0 0;have eN:=zh (zC (B:=w.heap.size) (b:=(w.heap.size+1)) (by omega) (zS 0 0 0 0 Sl.nil 0 0) jI.o);have iH:=jC.o (pts wr (w.heap.size+1) (zS 0 0 0 0 Sl.nil 0 0));rw[jM.o];generalize pts wr (w.heap.size+1) (zS 0 0 0 0 Sl.nil 0 0)=V at *;exact au (v:=.tuple #[ze 0 0 0 0 Sl.nil 0 0,.int .i64 9]) (by simp[results,results43,go_sem,hby.q]) rfl ⟨⟨_,rfl,iH⟩,eN.o⟩
 have jM:=zh (show TG=(12,gX) by rw[lW.o,ai pF]);have e1:(md==1)=false:=beq_eq_false_iff_ne.2 pF;clear lW;obtain ⟨x0,x1,x2,x3,x4,x5,x6,x7,x8,x9,gP,gQ,gK,gM⟩:=pM.o.q;obtain ⟨r0,r1,r2,r3,r4,r5,r6,r7,r8,r9,nL,mD,mR,pK⟩:=lF.o.q;have rf:=lF.o.f;go_wp2_with fail;change bodyPost _ _ _ _ _ (pts wr (w.heap.size+1) (zS 0 0 0 0 Sl.nil 0 0));have hby:=lF.o.all 0 0 0 0 Sl.nil 0 0;have eN:=zh (zC (B:=w.heap.size) (b:=(w.heap.size+1)) (by omega) (zS 0 0 0 0 Sl.nil 0 0) jI.o);have iH:=jC.o (pts wr (w.heap.size+1) (zS 0 0 0 0 Sl.nil 0 0));rw[jM.o];generalize pts wr (w.heap.size+1) (zS 0 0 0 0 Sl.nil 0 0)=V at *;exact au (v:=.tuple #[ze 0 0 0 0 Sl.nil 0 0,.int .i64 12]) (by simp[results,results43,go_sem,hby.q]) rfl ⟨⟨_,rfl,iH⟩,eN.o⟩
end Go.Proofs.YtcgfilmmokmdjaaGreat
