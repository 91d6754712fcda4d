import Derived.Test.YtcgfilmmokmdjaaGreatQBA
set_option linter.all false
set_option maxRecDepth 100000
set_option maxHeartbeats 32000000
namespace Go.Proofs.YtcgfilmmokmdjaaGreat
open Go.Proofs.Tryz
open Go.RowKit
def zOY {w:World} {B b:Nat} {P:fP} {ga:Option Addr} {gn gc:Nat} {L:List GP} {kv:Value} {ks:List KP} {nv:Value} {es:List (Nd×Value)} {rv:Value} (hlo:B<=b) (hP:Ac w b P.t.id P.t.lim P.t.ro ga gn gc P.eH kv nv rv P.bytes) (hR:nj w B P ga gn gc L kv ks nv es rv) (hl:fF 800 P.t.ep) (hB:B<=w.heap.size) (hel:es.length<=900) (hby:0<=P.bytes/\P.bytes<=1000000000) (hg1:P.t.ep.length<=1) (q:Rq) (tk kind key ck:Int) (da:Option Addr) (dn dc:Nat) (hd:ll w (.slice da dn dc) q.data) (iz:dn<=1000000) (Mx:P.res.length<=16) (hqd:q.kind=kind) (Av:(q.key:Int)=key) (Cx:(q.ck:Int)=ck) :
  Calls prog 66 #[.pointer (some ⟨b,0,none⟩),Eg tk kind key ck (.slice da dn dc)] w fun e w'=>e=.returned (.bool (zq P q).1)/\AX w' B b (zq P q).2/\fQ B w w':=by
 have lu:q.data.length=dn:=by obtain ⟨_,_,_,e,_⟩:=hd;injection e with _ e _;exact e.symm
 have fS:b<w.heap.size:=hP.lt;have Cl:fF 1000 P.t.ep:=hl.mono (by decide);have IQ:=zh (fun W (hb:Below w.heap.size w W)=>zG2 b P.t ga gn gc L P.eH kv nv rv P.bytes tk kind key ck da dn dc W (hP.bb hb) (hR.g.rd.bb hb) hR.gg Cl iz q lu);have K0:=zh (fun W (hb:Below w.heap.size w W)=>zGE b P.t ga gn gc L P.eH kv nv rv P.bytes tk kind key ck da dn dc W (hP.bb hb) (hR.g.rd.bb hb) hR.gg Cl q Av Cx);have fL:=zh (fun W=>zI8 tk kind key ck da dn dc W);have ng:=zh (fun W cap (hb:Below w.heap.size w W) (hc:eu W cap #[.pointer (some ⟨b,0,none⟩)] 143)=>zII b cap P.t ga gn gc L P.eH kv nv rv P.bytes tk kind key ck da dn dc W hc (hP.bb hb) (hR.g.rd.bb hb) hR.gg Cl);have DF:=zh (fun W (hb:Below w.heap.size w W)=>zMY P.t ga gn gc L W (hR.g.rd.bb hb) hR.gg Cl);have jb:=zh (fun W=>zJP tk kind key ck da dn dc W iz)
 have FH:=zh (fun W cap (h0:yI P.t q=0) (hb:Below w.heap.size w W) (hc:eu W cap #[.pointer (some ⟨b,0,none⟩)] 143)=>zKC hlo (hP.bb hb) (hR.bb hb) (hl.mono (by decide)) (ak hB hb.size) (by omega) hby q cap tk kind key ck da dn dc hc (il.bb hd hb) (by have:=zF9 h0;omega) Av Cx);have CU:=zh (fun W (hb:Below w.heap.size w W)=>zOZ hlo (hP.bb hb) (hR.bb hb) hl (ak hB hb.size) hel hby hg1 q tk kind key ck da dn dc Av Cx);have Ei:=zh hP;have j_:=zh hR;have rI:=zh (fun W (hb:Below w.heap.size w W)=>show AX W B b P from ⟨ga,gn,gc,L,kv,ks,nv,es,rv,hlo,hP.bb hb,hR.bb hb⟩);have EP:eY dn<=4127:=wI dn;have h0:=hby.1;have gy:=hby.2;clear hl Cl hel hg1 hd hby;have HDn:=zh lu;have Dw:=zh hqd;have Tw:=zh Av;clear lu hqd Av Cx;obtain ⟨ra,rc,DI,hr1,hr2,_⟩:=zG hR.r;subst DI;have q8:=hP.cell (i:=8) rfl;clear hP hR
 have eG:=(aj w.heap.size w).alloc (ag _) (.cells #[.int .i64 tk,.int .i64 kind,.int .u64 key,.int .u32 ck,.slice da dn dc] 85);have HX:=zh (eu.new w #[.int .i64 tk,.int .i64 kind,.int .u64 key,.int .u32 ck,.slice da dn dc] 85);have HB:=zh eG;have IY:=zh (Ei.o.bb eG);clear eG q8
 go_enter func66,ntmps66
 go_upto_region 1 with fail;change Code.wp _ _ _ _ (.alloc _ (.cells _ 85));generalize w.alloc (.cells #[.int .i64 tk,.int .i64 kind,.int .u64 key,.int .u32 ck,.slice da dn dc] 85)=w1 at *;generalize oU:w.heap.size=b3 at *;have hz1:w.heap.size<=b3:=by omega
 have hz2:b3<=w.heap.size:=by omega
 have hBw:B<=w.heap.size:=ak hB hz2;clear oU;have q8:=IY.o.cell (i:=8) rfl
 by_cases p_:P.res.length=16
 ·have HF:=zh (ko (q:=q) p_);have j16:((P.res.length:Int)==16)=true:=by simp;omega
  have jB:=zh (rI.o w1 HB.o);go_wp2_with fail;go_ret;exact ⟨by rw[HF.o];rfl,by rw[HF.o];exact jB.o,fQ.of (HB.o.mono hz1) (ak hB hz2)⟩
 have j16:((P.res.length:Int)==16)=false:=by simp;omega
 go_wp2_with fail;refine (zIA b w1).mono ?_;rintro e w2 ⟨g,cap,rfl,hru,hb2⟩;have A0:=zh hru;have fK:=zh (HX.o.bb hb2);have eX:=zh (HB.o.trans (hb2.mono (ak hz2 HB.o.size)));clear hru hb2 HX HB IY q8
 go_upto_block 0 with fail
 go_cut [5] (fun ev wx=>∃ E st,ev=.int .i64 E/\Hid (zq P q=(true,more st E))/\Hid (AX wx B b st)/\Hid (fQ B w wx))
 case first =>
  go_wp2_with fail
  go_loopw [5,18] (fun ev iv W=>∃ (j:Nat) (E:Int) (st:fP),ev=.int .i64 E/\iv=.int .i64 (j:Int)/\j<=2/\Hid ((j=0∨(j=1/\kind≠1)∨(j=2/\kind≠1/\kind≠2))->E=1/\st=P/\Below b3 w W)/\Hid (¬ (j=0∨(j=1/\kind≠1)∨(j=2/\kind≠1/\kind≠2))->zq P q=(true,more st E))/\Hid (AX W B b st)/\Hid (eu W b3 #[.int .i64 tk,.int .i64 kind,.int .u64 key,.int .u32 ck,.slice da dn dc] 85)/\Hid (lC W b g cap)/\Hid (fQ B w W)) (fun _ iv _=>2-(intOf iv).toNat)
  case atStart=>exact ⟨0,1,P,rfl,rfl,aq _,zh (fun _=>⟨rfl,rfl,eX.o⟩),zh (fun h=>absurd (.inl rfl) h),zh (rI.o w2 eX.o),fK,A0,zh (fQ.of (eX.o.mono hz1) hBw)⟩
  obtain ⟨j,E,st,rfl,rfl,hj2,Dp,MC,iu,HX,A0,HB⟩:=hrel;rcases (show j=0∨j=1∨j=2 by omega) with rfl|rfl|rfl
  ·have c0:=A0.o.r.cell (i:=0) rfl;have c1:=A0.o.r.cell (i:=1) rfl;have c2:=A0.o.r.cell (i:=2) rfl;have c3:=A0.o.r.cell (i:=3) rfl;obtain ⟨rfl,_,mC⟩:=Dp.o (.inl rfl);have jK:=zh mC;clear mC MC;have G5:b3<=wr.heap.size:=ak hz2 jK.o.size;have eG:=(aj wr.heap.size wr).alloc (ag _) (.cells #[.int .i64 1,.func (.func 144) #[.pointer (some ⟨b,0,none⟩)] #[],.func (.func 145) #[] #[],.func (.func 146) #[] #[.pointer (some ⟨cap,0,none⟩)]] 192);have HY:=zh (eu.new wr #[.int .i64 1,.func (.func 144) #[.pointer (some ⟨b,0,none⟩)] #[],.func (.func 145) #[] #[],.func (.func 146) #[] #[.pointer (some ⟨cap,0,none⟩)]] 192);go_upto_region 7 with fail;change Code.wp _ _ _ _ (.alloc _ (.cells _ 192))
   obtain ⟨bR,MD⟩:∃ bR,wr.heap.size=bR:=⟨_,rfl⟩
   rw[MD] at HY |-
   by_cases nw:kind=1
   ·have hk:kind=1:=nw;subst hk;clear nw;have l8:=zh (jK.o.trans (eG.mono G5));have G6:=zh (Ei.o.bb (l8.o.mono hz1));have jr:=zh (HX.o.bb eG);have Bz:=zh (A0.o.bb eG);clear eG iu HX A0 HB jK;generalize wr.alloc (.cells #[.int .i64 1,.func (.func 144) #[.pointer (some ⟨b,0,none⟩)] #[],.func (.func 145) #[] #[],.func (.func 146) #[] #[.pointer (some ⟨cap,0,none⟩)]] 192)=w6 at *;have y0:=HY.o.cell (i:=0) rfl;have y1:=HY.o.cell (i:=1) rfl;have x0:=jr.o.cell (i:=0) rfl;have x1:=jr.o.cell (i:=1) rfl;have x2:=jr.o.cell (i:=2) rfl;have x3:=jr.o.cell (i:=3) rfl;have x4:=jr.o.cell (i:=4) rfl;have G7:b3<=w6.heap.size:=ak hz2 l8.o.size;go_wp2_with fail;refine (IQ.o w6 l8.o).mono ?_;rintro e w7 ⟨rfl,pZ⟩;have jV:=zh (l8.o.trans (pZ.mono G7));have l9:=zh (G6.o.bb pZ)
    have jQ:=zh (jr.o.bb pZ);have sQ:=zh (Bz.o.bb pZ);have rP:=zh (HY.o.bb pZ);have rL:b3<=w7.heap.size:=ak hz2 jV.o.size;clear pZ y0 y1 x0 x1 x2 x3 x4 l8 G6 jr Bz HY G7;obtain ⟨cc,hcc⟩:∃ cc,yI P.t q=cc:=⟨_,rfl⟩
    have DJ:=zh hcc;rw[hcc];clear hcc;rcases (show cc=0∨cc=8∨cc=9 by rw[<- DJ.o];exact zC2) with rfl|rfl|rfl
    ·have G8:∃ sb,(decide (0<P.bytes)&&decide (16384<P.bytes+(eY dn:Int)))=sb:=⟨_,rfl⟩
     obtain ⟨sb,hsb⟩:=G8;have BW:=zh hsb;clear hsb;go_upto_region 13 with fail
     go_cut [73] (fun v wx=>v=.bool sb/\Hid (Below w7.heap.size w7 wx))
     case first =>
      have E4:Hid (∀ W,Calls prog 108 #[Eg tk 1 key ck (.slice da dn dc)] W fun e w'=>e=.returned (.int .i64 (eY dn:Int))/\Below W.heap.size W w'):=zh (fun W=>jb.o W);have DK:Hid (∀ W,Below b3 w W->eu W cap #[.pointer (some ⟨b,0,none⟩)] 143->Calls prog 145 #[Eg tk 1 key ck (.slice da dn dc)] W fun e w'=>e=.returned (.bool true)/\Below W.heap.size W w'):=zh (fun W _ _=>fL.o W);have QW:=EP;clear IQ K0 fL ng DF jb FH CU rI Dp j_;obtain ⟨bz,G9⟩:∃ bz,P.bytes=bz:=⟨_,rfl⟩
      rw[G9] at l9 BW h0 gy;clear G9
      by_cases hpos:0<bz
      ·obtain ⟨bg,hbg⟩:∃ bg,decide (16384<bz+(eY dn:Int))=bg:=⟨_,rfl⟩
       have oJ:=zh hbg;have hs:=BW.o;rw[aD hpos,hbg] at hs;simp only[bU] at hs;subst hs;clear BW hbg;have y2:=zB (rP.o.cell (i:=2) rfl);have x0:=zB (jQ.o.cell (i:=0) rfl);have x1:=zB (jQ.o.cell (i:=1) rfl);have x2:=zB (jQ.o.cell (i:=2) rfl);have x3:=zB (jQ.o.cell (i:=3) rfl);have x4:=zB (jQ.o.cell (i:=4) rfl);have q9:=zB (l9.o.cell (i:=9) rfl);have hg1:decide (0<bz)=true:=aD hpos;have hg2:decide (16384<bz+(eY dn:Int))=bg:=oJ.o;refine zD (by kernel_rfl) (by kernel_rfl) ?_
       repeat (go_big_quiet_step (first|exact zH (DK.o _ (jV.o.trans ((eD.h _).mono rL)) (sQ.o.c.bb (eD.h _)))|exact zH (E4.o _)))
       refine ay ?_;intro _ hw';obtain ⟨qq,hw'⟩:=hw';subst hw';have eN:=zh qq.h;clear y2 x0 x1 x2 x3 x4 q9;generalize qq.w'=w8 at *;go_wp2_with fail;go_meet
       case rel=>exact ⟨rfl,eN⟩
      obtain rfl:bz=0:=by omega
      have hs:=BW.o;rw[aC hpos] at hs;simp only[bU,dC] at hs;subst hs;clear BW hpos;have y2:=zB (rP.o.cell (i:=2) rfl);have x0:=zB (jQ.o.cell (i:=0) rfl);have x1:=zB (jQ.o.cell (i:=1) rfl);have x2:=zB (jQ.o.cell (i:=2) rfl);have x3:=zB (jQ.o.cell (i:=3) rfl);have x4:=zB (jQ.o.cell (i:=4) rfl);have q9:=zB (l9.o.cell (i:=9) rfl);refine zD (by kernel_rfl) (by kernel_rfl) ?_
      repeat (go_big_quiet_step (first|exact zH (DK.o _ (jV.o.trans ((eD.h _).mono rL)) (sQ.o.c.bb (eD.h _)))|exact zH (E4.o _)))
      refine ay ?_;intro _ hw';obtain ⟨qq,hw'⟩:=hw';subst hw';have eN:=zh qq.h;clear y2 x0 x1 x2 x3 x4 q9;generalize qq.w'=w8 at *;go_wp2_with fail;go_meet
      case rel=>exact ⟨rfl,eN⟩
     obtain ⟨rfl,nV⟩:=hcut;generalize wc=w8 at *;have lT:=zh (jV.o.trans (nV.o.mono rL));have sD:=zh (jQ.o.bb nV.o);have E5:=zh (sQ.o.bb nV.o);have Kw:=zh (rP.o.bb nV.o);clear nV jQ sQ rP l9 jV rL
     cases sb
     ·have HF:=zh (X_ (q:=q) p_ Dw.o DJ.o (show ¬ (0<P.bytes/\16384<P.bytes+(eY q.data.length:Int)) from by
       have hs:=BW.o
       intro hh
       have Fe:(decide (0<P.bytes)&&decide (16384<P.bytes+(eY dn:Int)))=true:=by simp only[aO,aR];exact ⟨hh.1,by rw[<- HDn.o];exact hh.2⟩
       rw[Fe] at hs
       cases hs))
      have y3:=Kw.o.cell (i:=3) rfl;have x0:=sD.o.cell (i:=0) rfl;have x1:=sD.o.cell (i:=1) rfl;have x2:=sD.o.cell (i:=2) rfl;have x3:=sD.o.cell (i:=3) rfl;have x4:=sD.o.cell (i:=4) rfl;have ME:b3<=w8.heap.size:=ak hz2 lT.o.size;go_wp2_with fail;refine (FH.o w8 cap DJ.o lT.o E5.o.c).mono ?_;rintro e w9 ⟨rfl,iA,gy⟩;have jL:=zh ((fQ.of (lT.o.mono hz1) hBw).trans gy);have rF:=zh (gy.box sD.o (by decide));have MF:=zh (E5.o.kept gy);have oQ:=zh iA;clear iA gy sD E5 Kw lT y3 x0 x1 x2 x3 x4 ME;go_wp2_with fail;exact ⟨⟨1,0,_,rfl,rfl,by decide,zh (fun h=>by omega),zh (fun _=>HF.o),oQ,rF,MF,jL⟩,by simp[intOf]⟩
     have HF:=zh (zCD (q:=q) p_ Dw.o DJ.o (show 0<P.bytes/\16384<P.bytes+(eY q.data.length:Int) from by
      have hs:=BW.o
      simp only[aO,aR] at hs
      exact ⟨hs.1,by rw[HDn.o];exact hs.2⟩))
     have jB:=zh (rI.o w8 lT.o);go_wp2_with fail;go_ret;exact ⟨by rw[HF.o];rfl,by rw[HF.o];exact jB.o,fQ.of (lT.o.mono hz1) hBw⟩
    ·have HF:=zh (tT (q:=q) p_ Dw.o (fun h=>by have:=h.1;rw[DJ.o] at this;cases this) (by rw[DJ.o];decide));have jB:=zh (rI.o w7 jV.o);have fH:=zh (fQ.of (jV.o.mono hz1) hBw);have C6:=zh (show zq P q=(true,more P 8) by have h:=HF.o;rw[DJ.o] at h;exact h);clear HF;go_wp2_with fail;go_meet
     case rel=>exact ⟨8,P,rfl,C6,jB,fH⟩
    by_cases hcs:wu P.t=true
    ·have HF:=zh (zDn (q:=q) p_ Dw.o DJ.o hcs);have q0:=l9.o.cell (i:=0) rfl;have q1:=l9.o.cell (i:=1) rfl;have q2:=l9.o.cell (i:=2) rfl;have q3:=l9.o.cell (i:=3) rfl;go_wp2_with fail;refine (DF.o w7 jV.o).mono ?_;rintro e w8 ⟨rfl,DX⟩;rw[hcs];have lT:=zh (jV.o.trans (DX.mono rL));have MG:=l9.o.bb DX;have KJ:=zh (j_.o.bb (lT.o.mono hz1));have q8:=MG.cell (i:=8) rfl;have q4:=MG.cell (i:=4) rfl;have f4:=MG.frozen 4;obtain ⟨rz,QL⟩:∃ rz,((P.res.length:Int)==0)=rz:=⟨_,rfl⟩
     have Yy:decide (P.res.length=0)=rz:=by
      rw[<- QL]
      by_cases e:P.res.length=0
      ·simp[e]
      have e2:¬ (P.res.length:Int)=0:=by omega
      simp[e]
     have jP:gO w8 (w8.setCell ⟨b,4,none⟩ (.bool rz)) B b 145:=gO.pts hlo ⟨_,_,MG⟩ [(4,.bool rz)];have nD:=zh (KJ.o.ik jP);have oQ:Hid (Ac (w8.setCell ⟨b,4,none⟩ (.bool rz)) b P.t.id P.t.lim P.t.ro ga gn gc rz kv nv (.slice ra P.res.length rc) P.bytes):=zh ((by have h:=MG.set 4 (.bool rz);rw[zNH] at h;exact h));have jL:=zh ((fQ.of (lT.o.mono hz1) hBw).pts hlo [(4,.bool rz)] ⟨_,_,MG⟩ (by decide));clear DX MG jP KJ l9 lT q0 q1 q2 q3 jQ sQ rP jV;go_wp2_with fail;go_ret;exact ⟨by rw[HF.o];rfl,by rw[HF.o,Yy];exact ⟨ga,gn,gc,L,kv,ks,nv,es,_,hlo,oQ.o,⟨nD.o.g,nD.o.gg,nD.o.k,nD.o.kk,nD.o.n,nD.o.nn,nD.o.r⟩⟩,jL.o⟩
    have FF:wu P.t=false:=by simpa using hcs
    have HF:=zh (tT (q:=q) p_ Dw.o (fun h=>hcs h.2) (by rw[DJ.o];decide));have jB:=zh (rI.o w7 jV.o);have fH:=zh (fQ.of (jV.o.mono hz1) hBw);have q0:=l9.o.cell (i:=0) rfl;have q1:=l9.o.cell (i:=1) rfl;have q2:=l9.o.cell (i:=2) rfl;have q3:=l9.o.cell (i:=3) rfl;go_wp2_with fail;refine (DF.o w7 jV.o).mono ?_;rintro e w8 ⟨rfl,DX⟩;rw[FF];have lT:=zh (jV.o.trans (DX.mono rL));have Yz:=zh (rI.o w8 lT.o);have YA:=zh (fQ.of (lT.o.mono hz1) hBw);have HF9:=zh (show zq P q=(true,more P 9) by have h:=HF.o;rw[DJ.o] at h;exact h);clear DX jB fH q0 q1 q2 q3 HF;go_wp2_with fail;go_meet
    case rel=>exact ⟨9,P,rfl,HF9,Yz,YA⟩
   have l8:=zh (jK.o.trans (eG.mono G5));have jr:=zh (HX.o.bb eG);have Bz:=zh (A0.o.bb eG);have jB:=zh (rI.o _ l8.o);clear eG iu HX A0 HB jK c0 c1 c2 c3;generalize wr.alloc (.cells #[.int .i64 1,.func (.func 144) #[.pointer (some ⟨b,0,none⟩)] #[],.func (.func 145) #[] #[],.func (.func 146) #[] #[.pointer (some ⟨cap,0,none⟩)]] 192)=w6 at *;have y0:=HY.o.cell (i:=0) rfl;have x1:=jr.o.cell (i:=1) rfl;have hk2:¬ (1:Int)=kind:=fun h=>nw h.symm
   have fH:=zh (fQ.of (l8.o.mono hz1) hBw);go_wp2_with fail;exact ⟨⟨1,1,P,rfl,rfl,by decide,zh (fun _=>⟨rfl,rfl,l8.o⟩),zh (fun h=>absurd (.inr (.inl ⟨rfl,nw⟩)) h),jB,jr,Bz,fH⟩,by simp[intOf]⟩
  ·have c0:=A0.o.r.cell (i:=4) rfl;have c1:=A0.o.r.cell (i:=5) rfl;have c2:=A0.o.r.cell (i:=6) rfl;have c3:=A0.o.r.cell (i:=7) rfl
   by_cases YB:kind=1
   ·have o9:=MC.o (by omega);have YC:=zh o9;clear o9 MC Dp;subst YB;have x1:=HX.o.cell (i:=1) rfl;have eG:=(aj wr.heap.size wr).alloc (ag _) (.cells #[.int .i64 2,.func (.func 149) #[.pointer (some ⟨b,0,none⟩)] #[],.func (.func 150) #[] #[.pointer (some ⟨cap,0,none⟩)],.func (.func 152) #[.pointer (some ⟨b,0,none⟩)] #[]] 192);have Cc:B<=wr.heap.size:=ak hB (ak hz2 HB.o.size);have G_:=zh (iu.o.bb eG);have fK:=zh (HX.o.bb eG);have YD:=zh (A0.o.bb eG);have eX:=zh (HB.o.step eG Cc);have x1:=fK.o.cell (i:=1) rfl;clear eG;go_wp2_with fail;exact ⟨⟨2,E,st,rfl,rfl,ag _,zh (fun h=>by omega),zh (fun _=>YC.o),G_,fK,YD,eX⟩,by simp[intOf]⟩
   obtain ⟨rfl,_,mC⟩:=Dp.o (.inr (.inl ⟨rfl,YB⟩));have jK:=zh mC;clear mC MC;have G5:b3<=wr.heap.size:=ak hz2 jK.o.size;have eG:=(aj wr.heap.size wr).alloc (ag _) (.cells #[.int .i64 2,.func (.func 149) #[.pointer (some ⟨b,0,none⟩)] #[],.func (.func 150) #[] #[.pointer (some ⟨cap,0,none⟩)],.func (.func 152) #[.pointer (some ⟨b,0,none⟩)] #[]] 192);have HY:=zh (eu.new wr #[.int .i64 2,.func (.func 149) #[.pointer (some ⟨b,0,none⟩)] #[],.func (.func 150) #[] #[.pointer (some ⟨cap,0,none⟩)],.func (.func 152) #[.pointer (some ⟨b,0,none⟩)] #[]] 192);go_upto_region 7 with fail;change Code.wp _ _ _ _ (.alloc _ (.cells _ 192));obtain ⟨bR,MD⟩:∃ bR,wr.heap.size=bR:=⟨_,rfl⟩
   rw[MD] at HY |-
   by_cases nw:kind=2
   ·have hk:kind=2:=nw;subst hk;clear nw;have l8:=zh (jK.o.trans (eG.mono G5));have G6:=zh (Ei.o.bb (l8.o.mono hz1));have jr:=zh (HX.o.bb eG);have Bz:=zh (A0.o.bb eG);clear eG iu HX A0 HB jK;generalize wr.alloc (.cells #[.int .i64 2,.func (.func 149) #[.pointer (some ⟨b,0,none⟩)] #[],.func (.func 150) #[] #[.pointer (some ⟨cap,0,none⟩)],.func (.func 152) #[.pointer (some ⟨b,0,none⟩)] #[]] 192)=w6 at *;have y0:=HY.o.cell (i:=0) rfl;have y1:=HY.o.cell (i:=1) rfl;have x0:=jr.o.cell (i:=0) rfl;have x1:=jr.o.cell (i:=1) rfl;have x2:=jr.o.cell (i:=2) rfl;have x3:=jr.o.cell (i:=3) rfl;have x4:=jr.o.cell (i:=4) rfl;have G7:b3<=w6.heap.size:=ak hz2 l8.o.size;go_wp2_with fail;refine (K0.o w6 l8.o).mono ?_;rintro e w7 ⟨rfl,pZ⟩;have jV:=zh (l8.o.trans (pZ.mono G7));have l9:=zh (G6.o.bb pZ)
    have jQ:=zh (jr.o.bb pZ);have sQ:=zh (Bz.o.bb pZ);have rP:=zh (HY.o.bb pZ);have rL:b3<=w7.heap.size:=ak hz2 jV.o.size;clear pZ y0 y1 x0 x1 x2 x3 x4 l8 G6 jr Bz HY G7;obtain ⟨cc,hcc⟩:∃ cc,xE P.t q=cc:=⟨_,rfl⟩
    have DJ:=zh hcc;rw[hcc];clear hcc;rcases (show cc=0∨cc=6 by rw[<- DJ.o];exact zFL) with rfl|rfl
    ·have G8:∃ sb,(wO P.t key&&(decide (0<P.bytes)&&decide (16384<P.bytes+24)))=sb:=⟨_,rfl⟩
     obtain ⟨sb,hsb⟩:=G8;have BW:=zh hsb;clear hsb;go_upto_region 13 with fail
     go_cut [73] (fun v wx=>v=.bool sb/\Hid (Below w7.heap.size w7 wx))
     case first =>
      have E4:Hid (∀ W,Calls prog 108 #[Eg tk 2 key ck (.slice da dn dc)] W fun e w'=>e=.returned (.int .i64 24)/\Below W.heap.size W w'):=zh (fun W=>jb.o W);have DK:Hid (∀ W,Below b3 w W->eu W cap #[.pointer (some ⟨b,0,none⟩)] 143->Calls prog 150 #[Eg tk 2 key ck (.slice da dn dc),.pointer (some ⟨cap,0,none⟩)] W fun e w'=>e=.returned (.bool (wO P.t key))/\Below W.heap.size W w'):=zh (fun W hb hc=>ng.o W cap hb hc);have QW:=EP;clear IQ K0 fL ng DF jb FH CU rI Dp j_;obtain ⟨bz,G9⟩:∃ bz,P.bytes=bz:=⟨_,rfl⟩
      rw[G9] at l9 BW h0 gy;clear G9;obtain ⟨tb,GZ⟩:∃ tb,wO P.t key=tb:=⟨_,rfl⟩
      rw[GZ] at DK BW;clear GZ
      cases tb
      ·have hs:=BW.o;rw[dC] at hs;subst hs;clear BW;have y2:=zB (rP.o.cell (i:=2) rfl);have x0:=zB (jQ.o.cell (i:=0) rfl);have x1:=zB (jQ.o.cell (i:=1) rfl);have x2:=zB (jQ.o.cell (i:=2) rfl);have x3:=zB (jQ.o.cell (i:=3) rfl);have x4:=zB (jQ.o.cell (i:=4) rfl);refine zD (by kernel_rfl) (by kernel_rfl) ?_
       repeat (go_big_quiet_step (first|exact zH (DK.o _ (jV.o.trans ((eD.h _).mono rL)) (sQ.o.c.bb (eD.h _)))|exact zH (E4.o _)))
       refine ay ?_;intro _ hw';obtain ⟨qq,hw'⟩:=hw';subst hw';have eN:=zh qq.h;clear y2 x0 x1 x2 x3 x4;generalize qq.w'=w8 at *;go_wp2_with fail;go_meet
       case rel=>exact ⟨rfl,eN⟩
      by_cases hpos:0<bz
      ·obtain ⟨bg,hbg⟩:∃ bg,decide (16384<bz+24)=bg:=⟨_,rfl⟩
       have oJ:=zh hbg;have hs:=BW.o;rw[aD hpos,hbg] at hs;simp only[bU] at hs;subst hs;clear BW hbg;have y2:=zB (rP.o.cell (i:=2) rfl);have x0:=zB (jQ.o.cell (i:=0) rfl);have x1:=zB (jQ.o.cell (i:=1) rfl);have x2:=zB (jQ.o.cell (i:=2) rfl);have x3:=zB (jQ.o.cell (i:=3) rfl);have x4:=zB (jQ.o.cell (i:=4) rfl);have q9:=zB (l9.o.cell (i:=9) rfl);have hg1:decide (0<bz)=true:=aD hpos;have hg2:decide (16384<bz+24)=bg:=oJ.o;refine zD (by kernel_rfl) (by kernel_rfl) ?_
       repeat (go_big_quiet_step (first|exact zH (DK.o _ (jV.o.trans ((eD.h _).mono rL)) (sQ.o.c.bb (eD.h _)))|exact zH (E4.o _)))
       refine ay ?_;intro _ hw';obtain ⟨qq,hw'⟩:=hw';subst hw';have eN:=zh qq.h;clear y2 x0 x1 x2 x3 x4 q9;generalize qq.w'=w8 at *;go_wp2_with fail;go_meet
       case rel=>exact ⟨rfl,eN⟩
      obtain rfl:bz=0:=by omega
      have hs:=BW.o;rw[aC hpos] at hs;simp only[bU,dC] at hs;subst hs;clear BW hpos;have y2:=zB (rP.o.cell (i:=2) rfl);have x0:=zB (jQ.o.cell (i:=0) rfl);have x1:=zB (jQ.o.cell (i:=1) rfl);have x2:=zB (jQ.o.cell (i:=2) rfl);have x3:=zB (jQ.o.cell (i:=3) rfl);have x4:=zB (jQ.o.cell (i:=4) rfl);have q9:=zB (l9.o.cell (i:=9) rfl);refine zD (by kernel_rfl) (by kernel_rfl) ?_
      repeat (go_big_quiet_step (first|exact zH (DK.o _ (jV.o.trans ((eD.h _).mono rL)) (sQ.o.c.bb (eD.h _)))|exact zH (E4.o _)))
      refine ay ?_;intro _ hw';obtain ⟨qq,hw'⟩:=hw';subst hw';have eN:=zh qq.h;clear y2 x0 x1 x2 x3 x4 q9;generalize qq.w'=w8 at *;go_wp2_with fail;go_meet
      case rel=>exact ⟨rfl,eN⟩
     obtain ⟨rfl,nV⟩:=hcut;generalize wc=w8 at *;have lT:=zh (jV.o.trans (nV.o.mono rL));have sD:=zh (jQ.o.bb nV.o);have E5:=zh (sQ.o.bb nV.o);have Kw:=zh (rP.o.bb nV.o);clear nV jQ sQ rP l9 jV rL
     cases sb
     ·have HF:=zh (kY (q:=q) p_ Dw.o DJ.o (show ¬ (wO P.t q.key=true/\0<P.bytes/\16384<P.bytes+24) from by
       have hs:=BW.o
       intro hh
       have Fe:(wO P.t key&&(decide (0<P.bytes)&&decide (16384<P.bytes+24)))=true:=by simp only[aO,aR];exact ⟨by rw[<- Tw.o];exact hh.1,hh.2⟩
       rw[Fe] at hs
       cases hs))
      have y3:=Kw.o.cell (i:=3) rfl;have x0:=sD.o.cell (i:=0) rfl;have x1:=sD.o.cell (i:=1) rfl;have x2:=sD.o.cell (i:=2) rfl;have x3:=sD.o.cell (i:=3) rfl;have x4:=sD.o.cell (i:=4) rfl;have ME:b3<=w8.heap.size:=ak hz2 lT.o.size;go_wp2_with fail;refine (CU.o w8 lT.o).mono ?_;rintro e w9 ⟨rfl,iA,gy⟩;have jL:=zh ((fQ.of (lT.o.mono hz1) hBw).trans gy);have rF:=zh (gy.box sD.o (by decide));have MF:=zh (E5.o.kept gy);have oQ:=zh iA;clear iA gy sD E5 Kw lT y3 x0 x1 x2 x3 x4 ME;go_wp2_with fail;exact ⟨⟨2,0,_,rfl,rfl,by decide,zh (fun h=>by omega),zh (fun _=>HF.o),oQ,rF,MF,jL⟩,by simp[intOf]⟩
     have HF:=zh (zCa (q:=q) p_ Dw.o DJ.o (show wO P.t q.key=true/\0<P.bytes/\16384<P.bytes+24 from by
      have hs:=BW.o
      simp only[aO,aR] at hs
      exact ⟨by rw[Tw.o];exact hs.1,hs.2⟩))
     have jB:=zh (rI.o w8 lT.o);go_wp2_with fail;go_ret;exact ⟨by rw[HF.o];rfl,by rw[HF.o];exact jB.o,fQ.of (lT.o.mono hz1) hBw⟩
    have HF:=zh (k9 (q:=q) p_ Dw.o DJ.o);have jB:=zh (rI.o w7 jV.o);have fH:=zh (fQ.of (jV.o.mono hz1) hBw);go_wp2_with fail;go_meet
    case rel=>exact ⟨6,P,rfl,HF,jB,fH⟩
   have l8:=zh (jK.o.trans (eG.mono G5));have jr:=zh (HX.o.bb eG);have Bz:=zh (A0.o.bb eG);have jB:=zh (rI.o _ l8.o);clear eG iu HX A0 HB jK c0 c1 c2 c3;generalize wr.alloc (.cells #[.int .i64 2,.func (.func 149) #[.pointer (some ⟨b,0,none⟩)] #[],.func (.func 150) #[] #[.pointer (some ⟨cap,0,none⟩)],.func (.func 152) #[.pointer (some ⟨b,0,none⟩)] #[]] 192)=w6 at *;have y0:=HY.o.cell (i:=0) rfl;have x1:=jr.o.cell (i:=1) rfl;have hk2:¬ (2:Int)=kind:=fun h=>nw h.symm
   have fH:=zh (fQ.of (l8.o.mono hz1) hBw);go_wp2_with fail;exact ⟨⟨2,1,P,rfl,rfl,by decide,zh (fun _=>⟨rfl,rfl,l8.o⟩),zh (fun h=>absurd (.inr (.inr ⟨rfl,YB,nw⟩)) h),jB,jr,Bz,fH⟩,by simp[intOf]⟩
  by_cases YE:kind≠1/\kind≠2
  ·obtain ⟨rfl,_,mC⟩:=Dp.o (.inr (.inr ⟨rfl,YE⟩));have jB:=zh (rI.o _ mC);have HF:=zh (zBL (P:=P) (q:=q) p_ (by rw[Dw.o];exact YE.1) (by rw[Dw.o];exact YE.2));clear Dp MC mC;go_wp2_with fail;go_meet
   case rel=>exact ⟨1,P,rfl,HF,jB,HB⟩
  have HF:=zh (MC.o (fun h=>by omega));clear Dp MC;go_wp2_with fail;go_meet
  case rel=>exact ⟨E,st,rfl,HF,iu,HB⟩
 obtain ⟨E,st,rfl,HF,iu,HB⟩:=hcut;generalize wc=v1 at *;obtain ⟨jo,jq,gc',L',sL,pd,oT,es',E2,jU,sN,sO⟩:=iu.o;obtain ⟨QJ,QK,sP,GU,GV,_⟩:=zG sO.r;subst sP;have ae4:st.res.length<=16:=by
  have h:=(kF P q Mx).1;rw[HF.o] at h;unfold more at h;simp only[ax,aW,dK] at h;omega
 have hB1:B<=v1.heap.size:=ak hBw HB.o.size;have q8:=sN.cell (i:=8) rfl;have eG:=(aj v1.heap.size v1).alloc (ag _) (.cells #[.int .i64 E] 39);have pQ:=zh (sN.bb eG);have lS:=zh (sO.bb eG);have h_:=zh (HB.o.step eG hB1);have iE:=zh lS.o.r;have rJ:=ak hB1 eG.size;clear eG sN sO iu HB IQ K0 fL ng DF jb FH CU rI fK eX A0 Ei j_;go_wp2_with (at_builtin;go_must (refine zP (n:=st.res.length) (m:=1) rfl (.tmp 84) (.tmp 86) 69 rfl kj B rfl iE.o rfl (Rd.jR v1.heap.size v1 rfl 1 [.int .i64 E] 39 1 rfl (by decide)) (fun u hu=>by simp only[bp,bt,bu] at hu;rw[hu];rfl) (by unfold maxLen;omega) (by omega) rJ ?_);intro v3 w3 eB eW hv3;clear hv3;obtain ⟨oa,oc,ev,_,_,_⟩:=zG eB;subst ev;have iA:=pQ.o.fC (fM.row iE.o eW (ag B)) (by decide);have c8:=iA.cell (i:=8) rfl;have f8:=iA.frozen 8)
 have jP:gO w3 (w3.setCell ⟨b,8,none⟩ (.slice oa (st.res.length+1) oc)) B b 145:=gO.pts jU ⟨_,_,iA⟩ [(8,.slice oa (st.res.length+1) oc)];have nD:=zh ((lS.o.res E eW eB).1.ik jP);have oQ:Hid (Ac (w3.setCell ⟨b,8,none⟩ (.slice oa (st.res.length+1) oc)) b st.t.id st.t.lim st.t.ro jo jq gc' st.eH sL oT (.slice oa (st.res.length+1) oc) st.bytes):=zh ((by have h:=iA.set 8 (.slice oa (st.res.length+1) oc);rw[zNi] at h;exact h));have jL:=zh ((h_.o.own iE.o rJ eW (by decide)).pts jU [(8,.slice oa (st.res.length+1) oc)] ⟨_,_,iA⟩ (by decide));clear eB eW iA jP c8 f8 q8;go_wp2_with fail;go_ret;exact ⟨by rw[HF.o];rfl,by rw[HF.o];exact ⟨jo,jq,gc',L',sL,pd,oT,es',_,jU,oQ.o,nD.o⟩,jL.o⟩
end Go.Proofs.YtcgfilmmokmdjaaGreat
