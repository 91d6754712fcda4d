import Derived.Test.YtcgfilmmokmdjaaGreatQAZ
set_option linter.all false
set_option maxRecDepth 100000
set_option maxHeartbeats 32000000
namespace Go.Proofs.YtcgfilmmokmdjaaGreat
open Go.Proofs.Tryz
open Go.RowKit
def zOc (v:Value) (ac:List rj) (w:World) (h:Gy w v ac):Calls prog 20 #[v] w (SlR w (K2 ac)):=by
 obtain ⟨va,vc,rfl,Ai,hv2⟩:=h.shape;have HA:=zh h;have Cm:=zh (fun k (hk:k<=ac.length)=>t8 ac k hk);have LZ:=zh (fun k (hk:k<ac.length)=>zAf ac k hk)
 have Ay:=zh (show ∀ k,(k=8∨(k=ac.length/\k<=8))->K2 ac=wk EK (ac.take k) from fun k hk=>by
  unfold K2
  rcases hk with rfl|⟨rfl,hk⟩
  ·rfl
  rw[aS hk,aS (ag _)])
 have hcap:ac.length<=9223372036854775807:=ak Ai hv2;have GI:=zh (fun W=>zIC 1 9000 (by decide) W);clear h Ai hv2;generalize hn:ac.length=n at *;clear hn
 go_enter func20,ntmps20
 go_upto_region 1 with fail;change Code.wp _ _ _ _ (w.alloc (.cells (zM 0 0 false none 0 0) 31));have HZ:=zh (eu.new w (zM 0 0 false none 0 0) 31);have HB:=zh (zR w 0 0 false none 0 0 31);generalize w.alloc (.cells (zM 0 0 false none 0 0) 31)=w0 at *;go_wp2_with fail;refine (GI.o w0).mono ?_;rintro e w1 ⟨b,rfl,mC,hg,hb⟩;have HR:=zh (SH hg);replace HZ:=zh (HZ.o.bb hb);replace HB:=zh (zA HB.o hb);clear hg hb mC GI;have hbS:=HZ.o.lt;go_upto_region 2 with fail;change Code.wp _ _ _ _ (w1.alloc (.cells (zM 1 9000 false (some ⟨b,0,none⟩) 1 1) 31));obtain ⟨w2,hV,fq,HS⟩:=dY w1 (zM 1 9000 false (some ⟨b,0,none⟩) 1 1) 31;rw[hV];clear hV;replace HZ:=zh (HZ.o.bb fq);replace HB:=zh (zA HB.o fq);replace HR:=zh (HR.o.bb fq);clear fq;generalize w1.heap.size=bS at *;go_wp2_with fail
 go_loopw [5] (fun iv V=>∃ (k:Nat) (a:Option Addr) (m c:Nat) (L:List GP),iv=.int .i64 (k:Int)/\k<=n/\k<=8/\Hid (eu V bS (zM 1 9000 false a m c) 31)/\Hid (fB V (.slice a m c) L)/\Hid (ey L=(wk EK (ac.take k)).ep)/\Hid (eu V w.heap.size (zM 0 0 false none 0 0) 31)/\Hid (Below w.heap.size w V)) (fun iv _=>n-(intOf iv).toNat)
 case atStart=>exact ⟨0,_,_,_,EE,rfl,aq _,aq _,HS,HR,zh rfl,HZ,HB⟩
 clear HS HR HZ HB;obtain ⟨k,a,m,c,L,rfl,hk,mh,HS,HR,HE,HZ,HB⟩:=hrel
 by_cases hlt:k<n
 ·have i1:(k:Int)<(n:Int):=by omega
  by_cases aqF:k<8
  ·have i2:(k:Int)<8:=by omega
   obtain ⟨bq,oq,rfl,c0,c1,c2,c3,hN,hWf,hU⟩:=(HA.o.bb HB.o).at hlt;have HI:=Cm.o k hk;have hst:=LZ.o k hlt;unfold Zc at hst;generalize D9 ac k=x at *;obtain ⟨kind,lv,nl,gen,kv,keys⟩:=x;dsimp only at *;obtain ⟨la,lc,rfl,Cl,hl2⟩:=hN.shape;obtain ⟨ka,kc,rfl,nw,hk2⟩:=hU.fO;have BX:=zh (fun W (hb:Below wr.heap.size wr W)=>zBv (.slice la nl.length lc) nl 6 W (hN.bb hb) (by decide));have HU:=zh hU;have XA:=Zb 6 (nl.map (·.1));have hsd:=zFq 6 (nl.map (·.1));clear hN hWf hU Cl hl2;generalize nl.map (·.1)=ND at *;generalize nl.length=nn at *;obtain ⟨hIv,K3,rQ,K4,hIn,hIz⟩:=HI;generalize wk EK (ac.take k)=sk at *;have gl:=zh (Cm.o (k+1) (by omega));generalize Rs:wk EK (ac.take (k+1))=N6 at *;have M2:=zh Rs;clear Rs;obtain ⟨sid,Rt,sro,sg⟩:=sk;dsimp only at K3 rQ K4 hIn hIz HE;subst K3 rQ K4
   obtain rfl:sg=ey L:=HE.o.symm;have jY:=zh hst;clear hst HE;have hlen:=hIv.len;have Zl:L.length=m:=by
    obtain ⟨_,_,e,_⟩:=HR.o.shape;injection e with _ e _;exact e.symm
   dsimp only at hlen;rw[zk,Zl] at hlen;obtain ⟨j,rfl⟩:∃ j,m=j+1:=⟨m-1,by omega⟩
   have hj7:j<=7:=by omega
   have Ep:Hid (∀ p∈L,∀ i,i<8->(p.1.m.st i).length<=48):=zh (fun p hp i hi=>ak (hIn p.1 (cB hp) i hi) (by omega));have Ru:=zh Zl;clear hIv hIn hIz hlen Zl;go_upto_region 6 with fail;clear c0 c1 c2 c3;change Code.wp _ _ _ _ (.alloc _ (.cells _ 141));have fq:=(aj wr.heap.size wr).alloc (ag _) (.cells #[.int .i64 kind,.slice la nn lc,.int .i64 gen,.slice ka keys.length kc] 141);have I9:Hid (AcB (wr.alloc (.cells #[.int .i64 kind,.slice la nn lc,.int .i64 gen,.slice ka keys.length kc] 141)) wr.heap.size kind (.slice la nn lc) gen (.slice ka keys.length kc)):=zh (eu.new _ _ _);replace HS:=zh (HS.o.bb fq);replace HR:=zh (HR.o.bb fq);replace HZ:=zh (HZ.o.bb fq);replace HB:=zh (zA HB.o fq);replace HU:=zh (il.bb HU.o fq)
   replace BX:=zh (fun W (hb:Below _ _ W)=>BX.o W (zA fq hb));clear fq;generalize wr.alloc (.cells #[.int .i64 kind,.slice la nn lc,.int .i64 gen,.slice ka keys.length kc] 141)=v0 at *;generalize wr.heap.size=bA at *;have hlp:0<j+1:=by omega
   obtain ⟨t,kk,e1,e2,e3,e4,e5,e6,e7⟩:=zMD gen (j+1) hlp;simp only[dO,Int.natCast_one] at e1 e2 e3 e4 e5;have q2:=zB (show v0.cell? ⟨bA,2,none⟩=some (.int .i64 gen) from eu.cell I9.o rfl);have k3:=zB (eu.g_ HS.o).c3;refine zD (by kernel_rfl) (by kernel_rfl) ?_
   repeat (go_big_quiet_step (fail))
   refine ay ?_;intro _ hw';obtain ⟨q,hw'⟩:=hw';subst hw';replace HS:=zh (HS.o.bb q.h);replace HR:=zh (HR.o.bb q.h);replace HZ:=zh (HZ.o.bb q.h);replace HB:=zh (zA HB.o q.h);replace HU:=zh (il.bb HU.o q.h);replace I9:=zh (show AcB q.w' bA kind (.slice la nn lc) gen (.slice ka keys.length kc) from eu.bb I9.o q.h);replace BX:=zh (fun W (hb:Below _ _ W)=>BX.o W (zA q.h hb));clear q2 k3;generalize q.w'=v1 at *;clear q e1 e2 e3 e4 e5;have hmem:=yP (l:=L) (i:=kk) (by have:=Ru.o;omega);have lz:=zh (HR.o.m _ hmem);have Ef:=zh (Ep.o _ hmem);obtain ⟨bg,og,rfl,_⟩:=HR.o.at e6;have HG:=zh (HR.o.O3 e6);have K5:Hid (fh (ey L) (gen%((ey L).length:Int)).toNat=(pat L kk).1):=zh (by rw[zk,Ru.o];simp only[dO,Int.natCast_one];rw[show gen%((j:Int)+1)=(kk:Int) from by simpa using e7,dR,yj])
   clear hmem e7;generalize pat L kk=p at *;obtain ⟨⟨num,rev,md,sz,⟨fs,LV,GA⟩⟩,s⟩:=p;dsimp only at lz Ef K5;have k3:=(eu.g_ HS.o).c3;have i3:(kk:Int)<(j:Int)+1:=by omega
   have i4:(kk:Int)<((j+1:Nat):Int):=by omega
   obtain ⟨g0,g1,g2,g3,g4,g5,g6,g7,g8,g9,g10,g11,g12,g13⟩:=HG.o.q;dsimp only at g0 g1 g2 g3 g4 g5 g6 g7 g8 g9 g10 g11 g12 g13;go_upto_region 7 with fail
   go_cut [8,9] (fun vb ve wx=>vb=.pointer (some ⟨v1.heap.size,0,none⟩)/\ve=.int .i64 1/\wx=v1.alloc (.cells (zU num rev md sz s LV GA) 113))
   case first =>
    go_wp2_with fail;go_meet
    case rel=>exact ⟨rfl,rfl,rfl⟩
   case rest =>
   clear k3;clear g0 g1 g2 g3 g4 g5 g6 g7 g8 g9 g10 g11 g12 g13;obtain ⟨rfl,rfl,rfl⟩:=hcut
   have eX:=zh (zT v1 num rev md sz s LV GA 113);have XG:=zh (eu.new v1 (zU num rev md sz s LV GA) 113);have FN:=zh (lz.o.bb eX.o);generalize v1.alloc (.cells (zU num rev md sz s LV GA) 113)=v2 at *;generalize Rj:v1.heap.size=bG at *;have nK:=zh (fun V (h:Below bG v1 V)=>show Below v1.heap.size v1 V from Rj▸h);have C4:=zh (fun V (h:Below v2.heap.size v2 V)=>show Below bG v1 V from zNF Rj eX.o h);have hSG:bS<bG:=by rw[<- Rj];exact HS.o.lt
   clear Rj;have jJ:Hid (∀ p∈L,∀ j,j<8->(p.1.m.st j).length<=10000):=zh (fun p hp i hi=>ak (Ep.o p hp i hi) (by decide));go_step;go_step
   go_cut [9] (fun ve wx=>∃ (er an ar am az aL aG:Int) (sG:Sl) (af:Nat->List It) (a':Option Addr) (m' c':Nat) (L':List GP),ve=.int .i64 er/\Hid (eu wx bG (zU an ar am az sG aL aG) 113)/\Hid (fN wx sG af)/\Hid (∀ i,i<8->(af i).length<=10000)/\Hid (eu wx bS (zM 1 9000 false a' m' c') 31)/\Hid (fB wx (.slice a' m' c') L')/\Hid (∀ p∈L',∀ j,j<8->(p.1.m.st j).length<=10000)/\Hid (N6.ep=(uP ⟨1,9000,false,ey L'⟩ (er,⟨an,ar,am,az,⟨af,aL,aG⟩⟩)).ep)/\Hid (eu wx w.heap.size (zM 0 0 false none 0 0) 31)/\Hid (Below w.heap.size w wx))
   case first =>
    have q0:v2.cell? ⟨bA,0,none⟩=some (.int .i64 kind):=eu.cell (eu.bb I9.o (nK.o _ eX.o)) rfl;obtain ⟨kd,FY,Rv⟩:∃ kd,bits .and .i64 kind 7=kd/\0<=kd/\kd<8:=⟨_,rfl,by rw[zFG];omega⟩
    rw[<- zFG kind,FY] at jY;have rA:=zh Rv;clear Rv;go_upto_if 55 with fail;clear FY q0
    go_cut [55] (fun v wx=>v=.bool (decide (kd<4))/\wx=v2)
    case first =>
     rcases (show kd=0∨kd=1∨kd=2∨kd=3∨(4<=kd/\kd<8) from by have:=rA.o;omega) with rfl|rfl|rfl|rfl|⟨h4,h8⟩
     ·go_wp2_with fail;go_meet
      case rel=>exact ⟨rfl,rfl⟩
     ·go_wp2_with fail;go_meet
      case rel=>exact ⟨rfl,rfl⟩
     ·go_wp2_with fail;go_meet
      case rel=>exact ⟨rfl,rfl⟩
     ·go_wp2_with fail;go_meet
      case rel=>exact ⟨rfl,rfl⟩
     have e0:(kd==0)=false:=beq_eq_false_iff_ne.2 (by omega);have e1:(kd==1)=false:=beq_eq_false_iff_ne.2 (by omega);have e2:(kd==2)=false:=beq_eq_false_iff_ne.2 (by omega);have e3:(kd==3)=false:=beq_eq_false_iff_ne.2 (by omega);have e4:decide (kd<4)=false:=aC (by omega);go_wp2_with fail;go_meet
     case rel=>exact ⟨by rw[e4],rfl⟩
    obtain ⟨rfl,hwc⟩:=hcut;generalize wc=w5 at *;replace hwc:=hwc.symm;subst hwc
    by_cases h4:kd<4
    ·have hk4:decide (kd<4)=true:=aD h4;rw[hk4]
     have Gk:=zh (jY.o.trans (show tY ⟨1,9000,false,ey L⟩ kd ND gen keys=uP ⟨1,9000,false,ey L⟩ (yZ (zZ ⟨1,9000,false,ey L⟩) (B4 6 ND)) from by
      unfold tY;rw[ai (by omega),ai (by omega),ai (by omega)]))
     clear hk4 h4 rA jY;go_upto_region 13 with fail;have Zm:=yP (l:=L) (i:=j) (by have:=Ru.o;omega);have A6:=zh (HR.o.m _ Zm);have FX:=zh (Ep.o _ Zm);have lW:=zh (HR.o.O3 (show j<j+1 by omega));have mG:Hid (N6=uP ⟨1,9000,false,ey L⟩ (yZ (pat L j).1 (B4 6 ND))):=zh (by rw[<- wZ (i:=1) (l:=9000) (r:=false) Ru.o];exact Gk.o);clear Zm Gk K5 lz Ef HG FN HU;generalize pat L j=p at *;obtain ⟨⟨n2,r2,m2,z2,⟨f2,L2,G2⟩⟩,s2⟩:=p;dsimp only at A6 FX mG;generalize B4 6 ND=SN at *
     have lL:=zh (show ∀ lv es W,Below v2.heap.size v2 W->mJ W lv es->es.map (·.1)=SN->Calls prog 43 #[ze n2 r2 m2 z2 s2 L2 G2,lv] W fun e w'=>(∃ s',e=.returned (.tuple #[ze (yZ ⟨n2,r2,m2,z2,⟨f2,L2,G2⟩⟩ SN).2.num (yZ ⟨n2,r2,m2,z2,⟨f2,L2,G2⟩⟩ SN).2.rev (yZ ⟨n2,r2,m2,z2,⟨f2,L2,G2⟩⟩ SN).2.mode (yZ ⟨n2,r2,m2,z2,⟨f2,L2,G2⟩⟩ SN).2.size s' (yZ ⟨n2,r2,m2,z2,⟨f2,L2,G2⟩⟩ SN).2.m.live (yZ ⟨n2,r2,m2,z2,⟨f2,L2,G2⟩⟩ SN).2.m.ew,.int .i64 (yZ ⟨n2,r2,m2,z2,⟨f2,L2,G2⟩⟩ SN).1])/\fN w' s' (yZ ⟨n2,r2,m2,z2,⟨f2,L2,G2⟩⟩ SN).2.m.st)/\Below W.heap.size W w' from fun lv es W hb h2 h3=>by
      have hb1:Below v1.heap.size v1 W:=nK.o _ (C4.o _ hb)
      have hle:es.length<=6:=by have:=aM List.length h3;rw[aH] at this;omega
      have h9:=WA ⟨n2,r2,m2,z2,⟨f2,L2,G2⟩⟩ s2 lv es 48 W (A6.o.bb hb1) FX.o h2 (by omega) (fun p hp=>by have:=hsd p.1 (h3▸cB hp);omega)
      rw[h3] at h9
      exact h9.mono fun e w' hq=>⟨hq.1.imp fun s' hs'=>⟨hs'.1,hs'.2.rd (A6.o.bb hb1) hq.2⟩,hq.2⟩)
     have FO:Hid (∀ i,i<8->((yZ ⟨n2,r2,m2,z2,⟨f2,L2,G2⟩⟩ SN).2.m.st i).length<=10000):=zh (fun i hi=>ak (zJi (K:=48) ⟨n2,r2,m2,z2,⟨f2,L2,G2⟩⟩ SN FX.o i hi) (by omega));clear A6 FX hsd;generalize yZ ⟨n2,r2,m2,z2,⟨f2,L2,G2⟩⟩ SN=TG at *;obtain ⟨er,⟨an,ar,am,az,⟨af,aL,aG⟩⟩⟩:=TG;dsimp only at lL FO mG;have j3:IntKind.i64.wrap (j:Int)=(j:Int):=aF _ (by omega);have j5:(j:Int)<((j+1:Nat):Int):=by omega
     refine yQ [eT (.pointer (some ⟨bS,3,none⟩)),eT (.slice (some ⟨bg,og,none⟩) (j+1) c),eT (.pointer (some ⟨bS,3,none⟩)),eT (.slice (some ⟨bg,og,none⟩) (j+1) c),eT (.int .i64 ((j:Int)+1)),eT (.int .i64 (j:Int)),eT (.pointer (some ⟨bg,og+j*14,none⟩)),eT (ze n2 r2 m2 z2 s2 L2 G2),eT (.pointer (some ⟨bA,1,none⟩)),eT (.slice la nn lc),zNk SN,zNs er an ar am az af aL aG,zNs er an ar am az af aL aG,zNt an ar am az af aL aG,eT (.int .i64 er)] [] 122 14 (by kernel_rfl) (by kernel_rfl) rfl rfl (by decide) (by rfl) (by kernel_rfl) (fun f=>by simp[fU,zW,Act.put];exact rfl) ?_ ?_ ?_
     ·refine ⟨?_,?_,?_,?_,?_,?_,?_,?_,?_,?_,?_,?_,?_,?_,?_,trivial⟩
      ·intro f w1 hb hd;clear hd;dsimp only;go_wp2_with fail;exact pS rfl (by simp)
      ·intro f w1 hb hd;have d0:f 0=_:=hd 0 (by kernel_rfl);clear hd;dsimp only;rw[d0];have hb1:=nK.o _ (C4.o _ hb);have q3:=(eu.g_ (HS.o.bb hb1)).c3;go_wp2_with fail;exact pS rfl (by simp)
      ·intro f w1 hb hd;clear hd;dsimp only;go_wp2_with fail;exact pS rfl (by simp)
      ·intro f w1 hb hd;have d2:f 2=_:=hd 2 (by kernel_rfl);clear hd;dsimp only;rw[d2];have hb1:=nK.o _ (C4.o _ hb);have q3:=(eu.g_ (HS.o.bb hb1)).c3;go_wp2_with fail;exact pS rfl (by simp)
      ·intro f w1 hb hd;have d3:f 3=_:=hd 3 (by kernel_rfl);clear hd;dsimp only;rw[d3];go_wp2_with fail;exact pS rfl (by simp)
      ·intro f w1 hb hd;have d4:f 4=_:=hd 4 (by kernel_rfl);clear hd;dsimp only;rw[d4];go_wp2_with fail;exact pS rfl (by simp)
      ·intro f w1 hb hd;have d1:f 1=_:=hd 1 (by kernel_rfl);have d5:f 5=_:=hd 5 (by kernel_rfl);clear hd;dsimp only;rw[d1];rw[d5];go_wp2_with fail;exact pS rfl (by simp)
      ·intro f w1 hb hd;have d6:f 6=_:=hd 6 (by kernel_rfl);clear hd;dsimp only;rw[d6];have hb1:=nK.o _ (C4.o _ hb);have zo:=lW.o.bb hb1;obtain ⟨q0,q1,q2,q3,q4,q5,q6,q7,q8,q9,w_,y_,z_,Aa⟩:=zo.q;clear zo;dsimp only at q0 q1 q2 q3 q4 q5 q6 q7 q8 q9 w_ y_ z_ Aa;go_wp2_with fail;exact pS rfl (by simp)
      ·intro f w1 hb hd;clear hd;dsimp only;go_wp2_with fail;exact pS rfl (by simp)
      ·intro f w1 hb hd;have d8:f 8=_:=hd 8 (by kernel_rfl);clear hd;dsimp only;rw[d8];have hb1:=nK.o _ (C4.o _ hb);have q1:w1.cell? ⟨bA,1,none⟩=some (.slice la nn lc):=eu.cell (eu.bb I9.o hb1) rfl;go_wp2_with fail;exact pS rfl (by simp)
      ·intro f w1 hb hd;have d9:f 9=_:=hd 9 (by kernel_rfl);clear hd;dsimp only;rw[d9];go_wp2_with fail;refine (BX.o w1 (C4.o _ hb)).mono ?_;rintro e w9 ⟨qv,es,rfl,sZ,hes,gy⟩;obtain ⟨qa,qc,rfl,_⟩:=sZ.rd.shape;go_wp2_with fail;exact pRg gy ⟨qa,es.length,qc,es,rfl,sZ.rd,hes⟩ (by simp)
      ·intro f w1 hb hd;have d7:f 7=_:=hd 7 (by kernel_rfl);obtain ⟨Px,n10,c10,Bc,d10,nL,m10⟩:=hd 10 (by kernel_rfl);clear hd;dsimp only;rw[d7];rw[d10];go_wp2_with fail;refine (lL.o _ Bc w1 hb nL m10).mono ?_;rintro e w9 ⟨⟨s9,rfl,sZ⟩,gy⟩;go_wp2_with fail;exact pRg gy ⟨s9,rfl,sZ⟩ (by simp)
      ·intro f w1 hb hd;obtain ⟨Y_,d11,mD⟩:=hd 11 (by kernel_rfl);clear hd;dsimp only;rw[d11];go_wp2_with fail;exact pRg (aj _ _) ⟨Y_,rfl,mD⟩ (by simp)
      ·intro f w1 hb hd;obtain ⟨N2,d12,mR⟩:=hd 12 (by kernel_rfl);clear hd;dsimp only;rw[d12];go_wp2_with fail;exact pRg (aj _ _) ⟨N2,rfl,mR⟩ (by simp)
      intro f w1 hb hd;obtain ⟨N2,d12,mR⟩:=hd 12 (by kernel_rfl);clear hd;dsimp only;rw[d12];go_wp2_with fail;exact pS rfl (by simp)
     ·intro f w5 hb hd iX;clear iX;obtain ⟨sb,d5,r5⟩:=hd 13 (show 13<15 by decide);have d6:f 14=_:=hd 14 (show 14<15 by decide)
      try dsimp only
      rw[d5,d6];clear hd d5 d6;have Kc:=zh (eu.bb XG.o hb);have r5:=zh r5;have mU:=zh (nK.o _ (zC (B:=bG) (b:=bG) (ag _) (zS an ar am az sb aL aG) (C4.o _ hb)));have M5:=zh (eu.pP Kc.o an ar am az sb aL aG);have jN:=zh (fN.gen r5.o Kc.o (zS an ar am az sb aL aG));have xf:=(eu.gen Kc.o).f;obtain ⟨x0,x1,x2,x3,x4,x5,x6,x7,x8,x9,gP,gQ,gK,gM⟩:=(eu.gen Kc.o).q;clear hb;change wpList _ _ _ (_::_::[]) _ _;go_wp2_with fail;go_meet
      case rel=>exact ⟨er,an,ar,am,az,aL,aG,sb,af,_,_,_,L,rfl,M5,jN,FO,HS.o.bb mU.o|> zh,zh (HR.o.bb mU.o),jJ,zh (by rw[mG.o]),zh (HZ.o.bb mU.o),zh (zA HB.o mU.o)⟩
     intro f w5 hb hd iX;clear iX;obtain ⟨sb,d5,r5⟩:=hd 13 (show 13<15 by decide) (by decide);obtain ⟨s4,d4,r4⟩:=hd 12 (show 12<15 by decide) (by decide);clear r4
     try dsimp only
     rw[d4,d5];clear hd d4 d5;have Kc:=zh (eu.bb XG.o hb);have r5:=zh r5;have mU:=zh (nK.o _ (zC (B:=bG) (b:=bG) (ag _) (zS an ar am az sb aL aG) (C4.o _ hb)));have M5:=zh (eu.pP Kc.o an ar am az sb aL aG);have jN:=zh (fN.gen r5.o Kc.o (zS an ar am az sb aL aG));have xf:=(eu.gen Kc.o).f;obtain ⟨x0,x1,x2,x3,x4,x5,x6,x7,x8,x9,gP,gQ,gK,gM⟩:=(eu.gen Kc.o).q;clear hb;change wpList _ _ _ (_::_::_::[]) _ _;go_wp2_with fail;go_meet
     case rel=>exact ⟨er,an,ar,am,az,aL,aG,sb,af,_,_,_,L,rfl,M5,jN,FO,HS.o.bb mU.o|> zh,zh (HR.o.bb mU.o),jJ,zh (by rw[mG.o]),zh (HZ.o.bb mU.o),zh (zA HB.o mU.o)⟩
    have hk4:decide (kd<4)=false:=aC h4;rw[hk4];clear hk4;rcases (show (kd=4∨kd=5)∨kd=6∨kd=7 from by have:=rA.o;omega) with h45|rfl|rfl
    ·clear h4 rA;go_upto_if 75 with fail
     go_cut [75] (fun v wx=>v=.bool true/\wx=v2)
     case first =>
      rcases h45 with rfl|rfl
      ·go_wp2_with fail;go_meet
       case rel=>exact ⟨rfl,rfl⟩
      go_wp2_with fail;go_meet
      case rel=>exact ⟨rfl,rfl⟩
     obtain ⟨rfl,hwc⟩:=hcut;generalize wc=w5 at *;replace hwc:=hwc.symm;subst hwc
     as_aux_lemma =>
     have PY:Hid (∀ i,i<8->(fs i).length<=10000):=zh (fun i hi=>ak (Ef.o i hi) (by decide));have fV:=zh (HS.o.bb (nK.o _ eX.o));have nR:=zh (zFw 1 9000 false (some ⟨bg,og,none⟩) (j+1) c L v2 (HR.o.bb (nK.o _ eX.o)) jJ.o);have pI:=zh (fun h=>zH3 (s:=⟨1,9000,false,ey L⟩) h);have BJ:=zh (jY.o.trans (show tY ⟨1,9000,false,ey L⟩ kd ND gen keys=if (xb ⟨1,9000,false,ey L⟩).2=0 then (xb ⟨1,9000,false,ey L⟩).1 else ⟨1,9000,false,ey L⟩ from by unfold tY;rw[ah h45]));clear BX HU I9 HG jY K5 lz Ef;generalize xb ⟨1,9000,false,ey L⟩=CS at *;obtain ⟨⟨Ib,sU,Ic,cg⟩,fe⟩:=CS;obtain ⟨k0,k1,k2,k3⟩:=(eu.g_ fV.o).q;go_wp2_with fail;refine nR.o.mono ?_;rintro e w9 ⟨⟨xa,xn,xc,xL,rfl,CJ,ou⟩,hb⟩;dsimp only at ou pI BJ |-;clear k0 k1 k2 k3 fV;have gy:=nK.o _ (C4.o _ hb);replace HS:=zh (HS.o.bb gy)
     replace HR:=zh (HR.o.bb gy);replace HZ:=zh (HZ.o.bb gy);replace HB:=zh (zA HB.o gy);replace XG:=zh (eu.bb XG.o hb);replace FN:=zh (FN.o.bb hb);have mj:=zh CJ;have gZ:=zh ou;clear CJ ou hb gy nR;go_upto_region 17 with fail;change Code.wp _ _ _ _ (w9.alloc (.cells (zM Ib sU Ic xa xn xc) 31));obtain ⟨N3,hV,fq,HX⟩:=dY w9 (zM Ib sU Ic xa xn xc) 31;rw[hV];clear hV;replace mj:=zh (mj.o.bb fq);replace XG:=zh (eu.bb XG.o fq);replace FN:=zh (FN.o.bb fq);replace HS:=zh (HS.o.bb fq);replace HR:=zh (HR.o.bb fq);replace HZ:=zh (HZ.o.bb fq);replace HB:=zh (zA HB.o fq);clear fq;generalize w9.heap.size=bX at *
     by_cases hf0:fe=0
     ·subst hf0;obtain ⟨rfl,rfl,rfl⟩:Ib=1/\sU=9000/\Ic=false:=by
       have h9:=pI.o rfl;injection h9 with h1 h2 h3 h4;exact ⟨h1,h2,h3⟩
      obtain ⟨z0,z1,z2,z3⟩:=(eu.g_ HX.o).q;obtain ⟨y0,y1,y2,y3⟩:=(eu.g_ HS.o).q;have yf:=(eu.g_ HS.o).f;have M6:=zh (eu.mV HS.o 1 9000 false xa xn xc);have iw:=zh (fB.g_ mj.o HS.o (zI 1 9000 false xa xn xc));have E6:=zh (eu.eL (c:=bS) (by omega) (zI 1 9000 false xa xn xc) HZ.o);have iZ:=zh (eu.eL (c:=bS) (by omega) (zI 1 9000 false xa xn xc) XG.o);have JM:=zh (fN.g_ FN.o HS.o (zI 1 9000 false xa xn xc));have fH:=zh (zC (B:=w.heap.size) (b:=bS) (by omega) (zI 1 9000 false xa xn xc) HB.o);have mG:Hid (N6.ep=ey xL):=zh (by rw[BJ.o,ah rfl];exact gZ.o.symm);have Sr:Hid (∀ p∈xL,∀ j,j<8->(p.1.m.st j).length<=10000):=zh (fun p hp i hi=>ak (gl.o.len _ (by rw[mG.o];exact cB hp) i hi) (by omega));go_wp2_with fail;go_meet
      case rel=>exact ⟨1,num,rev,md,sz,LV,GA,s,fs,xa,xn,xc,xL,rfl,iZ,JM,PY,M6,iw,Sr,zh (by rw[mG.o];rfl),E6,fH⟩
     have hz:(fe==0)=false:=beq_eq_false_iff_ne.2 hf0;have mG:Hid (N6.ep=ey L):=zh (by rw[BJ.o,ai hf0]);go_wp2_with fail;go_meet
     case rel=>exact ⟨1,num,rev,md,sz,LV,GA,s,fs,_,_,_,L,rfl,XG,FN,PY,HS,HR,jJ,zh (by rw[mG.o];rfl),HZ,HB⟩
    ·clear h4 rA
     have mG:=zh (show N6=uP ⟨1,9000,false,ey L⟩ (yh ⟨num,rev,md,sz,⟨fs,LV,GA⟩⟩ (keys.take 8)) from by
      rw[jY.o];unfold tY;rw[ai (by decide),ah rfl];dsimp only;rw[K5.o])
     clear jY K5 BX HG lz;have q3:v2.cell? ⟨bA,3,none⟩=some (.slice ka keys.length kc):=eu.cell (eu.bb I9.o (nK.o _ eX.o)) rfl;replace HU:=zh (il.bb HU.o (nK.o _ eX.o));go_upto_if 92 with fail
     go_cut [12] (fun kv wx=>(∃ m',kv=.slice ka m' kc/\Hid (mM v2 (.slice ka m' kc) (keys.take 8)))/\wx=v2)
     case first =>
      by_cases mh:8<keys.length
      ·have hd:decide ((8:Int)<(keys.length:Int))=true:=by simp;omega
       obtain ⟨bk,ok,rfl,_⟩:=mM.at HU.o (show 0<keys.length by omega);have Gc:=xH (P:=prog) zKe (a:=some ⟨bk,ok,none⟩) (n:=keys.length) (cap:=kc) (fun x hx=>⟨bk,ok,by injection hx with hx;exact hx.symm⟩) 8 (by omega);rw[show ((8:Nat):Int)=8 from rfl] at Gc;have HT:Hid (mM v2 (.slice (some ⟨bk,ok,none⟩) 8 kc) (keys.take 8)):=zh (il.take HU.o 8 (by omega));go_wp2_with fail;go_meet
       case rel=>exact ⟨⟨_,rfl,HT⟩,rfl⟩
      have hd:decide ((8:Int)<(keys.length:Int))=false:=by simp;omega
      have HT:Hid (mM v2 (.slice ka keys.length kc) (keys.take 8)):=zh (by rw[aS (by omega)];exact HU.o);go_wp2_with fail;go_meet
      case rel=>exact ⟨⟨_,rfl,HT⟩,rfl⟩
     obtain ⟨⟨m',rfl,HT⟩,hwc⟩:=hcut;generalize wc=w5 at *;replace hwc:=hwc.symm;subst hwc;clear q3 I9 HU;have Ad:=zh (Xk ⟨num,rev,md,sz,⟨fs,LV,GA⟩⟩ s (.slice ka m' kc) (keys.take 8) v2 FN.o (fun i hi=>ak (Ef.o i hi) (by decide)) HT.o (by rw[aB];omega));have FO:Hid (∀ i,i<8->((yh ⟨num,rev,md,sz,⟨fs,LV,GA⟩⟩ (keys.take 8)).2.m.st i).length<=10000):=zh (fun i hi=>ak (zIM (K:=48) ⟨num,rev,md,sz,⟨fs,LV,GA⟩⟩ _ Ef.o i hi) (by decide));dsimp only at Ad;generalize yh ⟨num,rev,md,sz,⟨fs,LV,GA⟩⟩ (keys.take 8)=TG at *;obtain ⟨er,⟨an,ar,am,az,⟨af,aL,aG⟩⟩⟩:=TG;dsimp only at FO mG;have Rw:=XG;have Zn:=FN;have Zo:=zh (aj v2.heap.size v2);obtain ⟨y0,y1,y2,y3,y4,y5,y6,y7,y8,y9,Fo,Fp,Fq,Fs⟩:=(eu.gen Rw.o).q;go_wp2_with fail;refine Ad.o.mono ?_;rintro e w6 ⟨⟨sb,rfl,ho⟩,hb⟩;dsimp only at ho |-
     clear y0 y1 y2 y3 y4 y5 y6 y7 y8 y9 Fo Fp Fq Fs;have RG:=zh (ho.rd Zn.o hb);have Ke:=zh (eu.bb Rw.o hb);have jH:=zh (zA Zo.o hb);clear ho hb Ad Ef HT;have mU:=zh (nK.o _ (zC (B:=bG) (b:=bG) (ag _) (zS an ar am az sb aL aG) (C4.o _ jH.o)));have M5:=zh (eu.pP Ke.o an ar am az sb aL aG);have jN:=zh (fN.gen RG.o Ke.o (zS an ar am az sb aL aG));have xf:=(eu.gen Ke.o).f;obtain ⟨x0,x1,x2,x3,x4,x5,x6,x7,x8,x9,gP,gQ,gK,gM⟩:=(eu.gen Ke.o).q;go_wp2_with fail;go_meet
     case rel=>exact ⟨er,an,ar,am,az,aL,aG,sb,af,_,_,_,L,rfl,M5,jN,FO,HS.o.bb mU.o|> zh,zh (HR.o.bb mU.o),jJ,zh (by rw[mG.o]),zh (HZ.o.bb mU.o),zh (zA HB.o mU.o)⟩
    clear h4 rA
    have mG:=zh (show N6=uP ⟨1,9000,false,ey L⟩ (wE ⟨num,rev,md,sz,⟨fs,LV,GA⟩⟩ 2) from by
     rw[jY.o];unfold tY;rw[ai (by decide),ai (by decide),ah rfl];dsimp only;rw[K5.o])
    clear jY K5 BX HG lz HU I9;have Ad:=zh (zIy ⟨num,rev,md,sz,⟨fs,LV,GA⟩⟩ s v2 FN.o (fun i hi=>ak (Ef.o i hi) (by decide)));have FO:Hid (∀ i,i<8->((wE ⟨num,rev,md,sz,⟨fs,LV,GA⟩⟩ 2).2.m.st i).length<=10000):=zh (fun i hi=>ak (zIT (K:=48) Ef.o i hi) (by decide));dsimp only at Ad;generalize wE ⟨num,rev,md,sz,⟨fs,LV,GA⟩⟩ 2=TG at *;obtain ⟨er,⟨an,ar,am,az,⟨af,aL,aG⟩⟩⟩:=TG;dsimp only at FO mG;have Rw:=XG;have Zn:=FN;have Zo:=zh (aj v2.heap.size v2);obtain ⟨y0,y1,y2,y3,y4,y5,y6,y7,y8,y9,Fo,Fp,Fq,Fs⟩:=(eu.gen Rw.o).q;go_wp2_with fail;refine Ad.o.mono ?_;rintro e w6 ⟨⟨sb,rfl,ho⟩,hb⟩;dsimp only at ho |-;clear y0 y1 y2 y3 y4 y5 y6 y7 y8 y9 Fo Fp Fq Fs;have RG:=zh (ho.rd Zn.o hb);have Ke:=zh (eu.bb Rw.o hb);have jH:=zh (zA Zo.o hb);clear ho hb Ad Ef
    have mU:=zh (nK.o _ (zC (B:=bG) (b:=bG) (ag _) (zS an ar am az sb aL aG) (C4.o _ jH.o)));have M5:=zh (eu.pP Ke.o an ar am az sb aL aG);have jN:=zh (fN.gen RG.o Ke.o (zS an ar am az sb aL aG));have xf:=(eu.gen Ke.o).f;obtain ⟨x0,x1,x2,x3,x4,x5,x6,x7,x8,x9,gP,gQ,gK,gM⟩:=(eu.gen Ke.o).q;go_wp2_with fail;go_meet
    case rel=>exact ⟨er,an,ar,am,az,aL,aG,sb,af,_,_,_,L,rfl,M5,jN,FO,HS.o.bb mU.o|> zh,zh (HR.o.bb mU.o),jJ,zh (by rw[mG.o]),zh (HZ.o.bb mU.o),zh (zA HB.o mU.o)⟩
   as_aux_lemma =>
   clear HS HR HZ HB XG FN jJ Ef lz HG jY K5 BX HU I9 nK C4 Ep eX Ru gl;obtain ⟨er,an,ar,am,az,aL,aG,sb,af,a',m',c',L',rfl,XG,RG,FO,HS,HR,jJ,mG,HZ,HB⟩:=hcut;generalize wc=w8 at *;obtain ⟨g0,g1,g2,g3,g4,g5,g6,g7,g8,g9,g10,g11,g12,g13⟩:=(eu.gen XG.o).q;obtain ⟨k0,k1,k2,k3⟩:=(eu.g_ HS.o).q;have nR:=zh (ea 1 9000 false a' m' c' L' w8 HR.o jJ.o (⟨an,ar,am,az,⟨af,aL,aG⟩⟩,sb) RG.o FO.o);have pI:=zh (fun h=>S3 (s:=⟨1,9000,false,ey L'⟩) (g:=⟨an,ar,am,az,⟨af,aL,aG⟩⟩) h);have BJ:=zh (mG.o.trans (show (uP ⟨1,9000,false,ey L'⟩ (er,⟨an,ar,am,az,⟨af,aL,aG⟩⟩)).ep=(if er=0/\(yS ⟨1,9000,false,ey L'⟩ ⟨an,ar,am,az,⟨af,aL,aG⟩⟩).2=0 then (yS ⟨1,9000,false,ey L'⟩ ⟨an,ar,am,az,⟨af,aL,aG⟩⟩).1 else ⟨1,9000,false,ey L'⟩).ep from rfl));clear mG;dsimp only at nR
   generalize yS ⟨1,9000,false,ey L'⟩ ⟨an,ar,am,az,⟨af,aL,aG⟩⟩=CS at *;obtain ⟨⟨Ib,sU,Ic,cg⟩,fe⟩:=CS;go_wp2_with fail;refine nR.o.mono ?_;rintro e w9 ⟨⟨xa,xn,xc,xL,rfl,CJ,ou⟩,hb⟩;dsimp only at ou pI BJ |-;clear k0 k1 k2 k3;clear g0 g1 g2 g3 g4 g5 g6 g7 g8 g9 g10 g11 g12 g13;replace HS:=zh (HS.o.bb hb);replace HR:=zh (HR.o.bb hb);replace HZ:=zh (HZ.o.bb hb);replace HB:=zh (zA HB.o hb);have mj:=zh CJ;have gZ:=zh ou;clear CJ ou hb nR XG RG FO;go_upto_region 27 with fail;change Code.wp _ _ _ _ (w9.alloc (.cells (zM Ib sU Ic xa xn xc) 31));obtain ⟨N3,hV,fq,HX⟩:=dY w9 (zM Ib sU Ic xa xn xc) 31;rw[hV];clear hV;replace mj:=zh (mj.o.bb fq);replace HS:=zh (HS.o.bb fq);replace HR:=zh (HR.o.bb fq);replace HZ:=zh (HZ.o.bb fq);replace HB:=zh (zA HB.o fq);clear fq;generalize w9.heap.size=bX at *
   by_cases Zp:er=0
   ·subst Zp
    by_cases hf0:fe=0
    ·subst hf0;obtain ⟨rfl,rfl,rfl⟩:Ib=1/\sU=9000/\Ic=false:=by
      have h9:=pI.o rfl;injection h9 with h1 h2 h3 h4;exact ⟨h1,h2,h3⟩
     obtain ⟨z0,z1,z2,z3⟩:=(eu.g_ HX.o).q;obtain ⟨y0,y1,y2,y3⟩:=(eu.g_ HS.o).q;have yf:=(eu.g_ HS.o).f;have M6:=zh (eu.mV HS.o 1 9000 false xa xn xc);have iw:=zh (fB.g_ mj.o HS.o (zI 1 9000 false xa xn xc));have E6:=zh (eu.eL (c:=bS) (by omega) (zI 1 9000 false xa xn xc) HZ.o);have fH:=zh (zC (B:=w.heap.size) (b:=bS) (by omega) (zI 1 9000 false xa xn xc) HB.o);have iZ:Hid (ey xL=(wk EK (ac.take (k+1))).ep):=zh (by rw[M2.o,BJ.o,ah ⟨rfl,rfl⟩];exact gZ.o);go_wp2_with fail;exact ⟨⟨k+1,xa,xn,xc,xL,by go_num,by omega,by omega,M6,iw,iZ,E6,fH⟩,by simp[intOf];omega⟩
    have hz:(fe==0)=false:=beq_eq_false_iff_ne.2 hf0;have iZ:Hid (ey L'=(wk EK (ac.take (k+1))).ep):=zh (by rw[M2.o,BJ.o,ai (fun h=>hf0 h.2)]);go_wp2_with fail;exact ⟨⟨k+1,_,_,_,L',by go_num,by omega,by omega,HS,HR,iZ,HZ,HB⟩,by simp[intOf];omega⟩
   have hz:(er==0)=false:=beq_eq_false_iff_ne.2 Zp;have iZ:Hid (ey L'=(wk EK (ac.take (k+1))).ep):=zh (by rw[M2.o,BJ.o,ai (fun h=>Zp h.1)]);go_wp2_with fail;exact ⟨⟨k+1,_,_,_,L',by go_num,by omega,by omega,HS,HR,iZ,HZ,HB⟩,by simp[intOf];omega⟩
  have i2:¬ (k:Int)<8:=by omega
  have hE:=zh (Ay.o k (.inl (by omega)));have HI:=Cm.o k hk;rw[<- hE.o] at HE HI;generalize K2 ac=MS at *;obtain ⟨sid,Rt,sro,sg⟩:=MS;obtain ⟨_,K3,rQ,K4,_,_⟩:=HI;dsimp only at K3 rQ K4 HE;subst K3 rQ K4;have EH:=zh (eu.g_ HZ.o);obtain ⟨k0,k1,k2,k3⟩:=(eu.g_ HS.o).q;obtain ⟨z0,z1,z2,z3⟩:=EH.o.q;have zf:=EH.o.f;go_wp2_with fail;change bodyPost _ _ _ _ _ (pts wr w.heap.size (zI 1 9000 false a m c));have rR:=zh (fB.g_ HR.o HZ.o (zI 1 9000 false a m c));have hby:=EH.o.all 1 9000 false a m c;have eN:=zh (zC (B:=w.heap.size) (b:=w.heap.size) (by omega) (zI 1 9000 false a m c) HB.o);generalize pts wr w.heap.size (zI 1 9000 false a m c)=V at *;exact au (v:=zQ 1 9000 false a m c) (by simp[results,results20,go_sem,hby.c0,hby.c1,hby.c2,hby.c3]) rfl (⟨⟨a,m,c,L,rfl,rR.o,HE.o⟩,eN.o⟩)
 have i1:¬ (k:Int)<(n:Int):=by omega
 have hE:=zh (Ay.o k (.inr ⟨by omega,mh⟩));have HI:=Cm.o k hk;rw[<- hE.o] at HE HI;generalize K2 ac=MS at *;obtain ⟨sid,Rt,sro,sg⟩:=MS;obtain ⟨_,K3,rQ,K4,_,_⟩:=HI;dsimp only at K3 rQ K4 HE;subst K3 rQ K4;have EH:=zh (eu.g_ HZ.o);obtain ⟨k0,k1,k2,k3⟩:=(eu.g_ HS.o).q;obtain ⟨z0,z1,z2,z3⟩:=EH.o.q;have zf:=EH.o.f;go_wp2_with fail;change bodyPost _ _ _ _ _ (pts wr w.heap.size (zI 1 9000 false a m c));have rR:=zh (fB.g_ HR.o HZ.o (zI 1 9000 false a m c));have hby:=EH.o.all 1 9000 false a m c;have eN:=zh (zC (B:=w.heap.size) (b:=w.heap.size) (by omega) (zI 1 9000 false a m c) HB.o);generalize pts wr w.heap.size (zI 1 9000 false a m c)=V at *;exact au (v:=zQ 1 9000 false a m c) (by simp[results,results20,go_sem,hby.c0,hby.c1,hby.c2,hby.c3]) rfl (⟨⟨a,m,c,L,rfl,rR.o,HE.o⟩,eN.o⟩)
end Go.Proofs.YtcgfilmmokmdjaaGreat
