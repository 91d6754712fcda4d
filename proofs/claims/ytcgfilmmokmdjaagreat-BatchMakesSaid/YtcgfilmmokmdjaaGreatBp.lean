import Derived.Test.YtcgfilmmokmdjaaGreatQAT
import Derived.Deep.CutBlock
set_option linter.all false
set_option maxRecDepth 100000
set_option maxHeartbeats 32000000
namespace Go.Proofs.YtcgfilmmokmdjaaGreat
open Go.RowKit
theorem zHS {w:World} {B b:Nat} {P:fB} {ga:Option Addr} {gn gc:Nat} {L:List GP} {kv:Value} {ks:List KP} {nv:Value} {es:List (Nd×Value)} {rv:Value} (hlo:B≤b) (hP:rH w b P.t.id P.t.lim P.t.ro ga gn gc P.ey kv nv rv P.bytes) (hR:mo w B P ga gn gc L kv ks nv es rv) (hl:fu 800 P.t.dY) (hB:B≤w.heap.size) (hel:es.length≤900) (hby:0≤P.bytes∧P.bytes≤1000000000) (M:Nat) (hM:M≤100000) (hsk:ou M P.eu) (rW:P.t.dY.length≤1000000) (q:Rq) (tk kind key ck:Int) (da:Option Addr) (dn dc:Nat) (hd:rB w (.slice da dn dc) q.data) (il:dn≤1000000) (J9:P.res.length≤16) (hqd:q.kind=kind) (rY:(q.key:Int)=key) (A6:(q.ck:Int)=ck) :
  Calls Tryz.prog 66 #[.pointer (some ⟨b,0,none⟩),CP tk kind key ck (.slice da dn dc)] w fun e w'=>e=.returned (.bool (zm P q).1)∧sH w' B b (zm P q).2∧fw B w w':=by
 have nk:q.data.length=dn:=by obtain ⟨_,_,_,e,_⟩:=hd;injection e with _ e _;exact e.symm
 have fU:b<w.heap.size:=hP.lt;have sV:fu 1000 P.t.dY:=hl.mono (by decide);have FU:=zh (fun W (hb:Below w.heap.size w W)=>zFh b P.t ga gn gc L P.ey kv nv rv P.bytes tk kind key ck da dn dc W (hP.below hb) (hR.g.rd.below hb) hR.gg sV il q nk);have IW:=zh (fun W (hb:Below w.heap.size w W)=>zEt b P.t ga gn gc L P.ey kv nv rv P.bytes tk kind key ck da dn dc W (hP.below hb) (hR.g.rd.below hb) hR.gg sV q rY A6);have fq:=zh (fun W=>zHf tk kind key ck da dn dc W);have nh:=zh (fun W cap (hb:Below w.heap.size w W) (hc:dZ W cap #[.pointer (some ⟨b,0,none⟩)] 143)=>zGt b cap P.t ga gn gc L P.ey kv nv rv P.bytes tk kind key ck da dn dc W hc (hP.below hb) (hR.g.rd.below hb) hR.gg sV);have E5:=zh (fun W (hb:Below w.heap.size w W)=>zK0 P.t ga gn gc L W (hR.g.rd.below hb) hR.gg sV);have jl:=zh (fun W=>zHy tk kind key ck da dn dc W il)
 have D9:=zh (fun W cap (h0:yD P.t q=0) (hb:Below w.heap.size w W) (hc:dZ W cap #[.pointer (some ⟨b,0,none⟩)] 143)=>zIj hlo (hP.below hb) (hR.below hb) (hl.mono (by decide)) (ak hB hb.size) (by omega) hby q cap tk kind key ck da dn dc hc (iE.below hd hb) (by have:=zEn h0;omega) rY A6);have Bd:=zh (fun W (hb:Below w.heap.size w W)=>zHY hlo (hP.below hb) (hR.below hb) hl (ak hB hb.size) hel hby M hM hsk rW q tk kind key ck da dn dc rY A6);have CU:=zh hP;have jO:=zh hR;have oZ:=zh (fun W (hb:Below w.heap.size w W)=>show sH W B b P from ⟨ga,gn,gc,L,kv,ks,nv,es,rv,hlo,hP.below hb,hR.below hb⟩);have Dv:eN dn≤4127:=xj dn;have h0:=hby.1;have gI:=hby.2;clear hl sV hsk hel rW hd hby;have HDn:=zh nk;have Bq:=zh hqd;have Qr:=zh rY;clear nk hqd rY A6;obtain ⟨ra,rc,Ke,hr1,hr2,_⟩:=zH hR.r;subst Ke;have q8:=hP.cell (i:=8) rfl
 clear hP hR;have ew:=(aj w.heap.size w).alloc (ag _) (.cells #[.int .i64 tk,.int .i64 kind,.int .u64 key,.int .u32 ck,.slice da dn dc] 85);have HX:=zh (dZ.new w #[.int .i64 tk,.int .i64 kind,.int .u64 key,.int .u32 ck,.slice da dn dc] 85);have HB:=zh ew;have FZ:=zh (CU.out.below ew);clear ew q8
 go_enter Tryz.func66,Tryz.ntmps66
 go_upto_region 1 with fail;change Code.wp _ _ _ _ (w.alloc (.cells #[.int .i64 tk,.int .i64 kind,.int .u64 key,.int .u32 ck,.slice da dn dc] 85));generalize w.alloc (.cells #[.int .i64 tk,.int .i64 kind,.int .u64 key,.int .u32 ck,.slice da dn dc] 85)=w1 at *;generalize nH:w.heap.size=b3 at *;have hz1:w.heap.size≤b3:=by omega
 have hz2:b3≤w.heap.size:=by omega
 have hBw:B≤w.heap.size:=ak hB hz2;clear nH;have q8:=FZ.out.cell (i:=8) rfl
 by_cases oH:P.res.length=16
 ·
  have HF:=zh (qu (q:=q) oH);have j16:((P.res.length:Int)==16)=true:=by simp;omega
  have iW:=zh (oZ.out w1 HB.out);go_wp2_with fail;go_ret;exact ⟨by rw[HF.out];rfl,by rw[HF.out];exact iW.out,fw.of (HB.out.mono hz1) (ak hB hz2)⟩
 have j16:((P.res.length:Int)==16)=false:=by simp;omega
 go_wp2_with fail;refine (zGm b w1).mono ?_;rintro e w2 ⟨g,cap,rfl,hru,hb2⟩;have sK:=zh hru;have fW:=zh (HX.out.below hb2);have eM:=zh (HB.out.trans (hb2.mono (ak hz2 HB.out.size)));clear hru hb2 HX HB FZ q8
 go_upto_block 0 with fail
 go_cut [5] (fun ev wx=>∃ E st,ev=.int .i64 E∧Hid (zm P q=(true,more st E))∧Hid (sH wx B b st)∧Hid (fw B w wx))
 case first =>
  go_wp2_with fail
  go_loopw [5,18] (fun ev iv W=>∃ (j:Nat) (E:Int) (st:fB),ev=.int .i64 E∧iv=.int .i64 (j:Int)∧j≤2∧Hid ((j=0∨(j=1∧kind≠1)∨(j=2∧kind≠1∧kind≠2))→E=1∧st=P∧Below b3 w W)∧Hid (¬ (j=0∨(j=1∧kind≠1)∨(j=2∧kind≠1∧kind≠2))→zm P q=(true,more st E))∧Hid (sH W B b st)∧Hid (dZ W b3 #[.int .i64 tk,.int .i64 kind,.int .u64 key,.int .u32 ck,.slice da dn dc] 85)∧Hid (jE W b g cap)∧Hid (fw B w W)) (fun _ iv _=>2-(intOf iv).toNat)
  case atStart=>exact ⟨0,1,P,rfl,rfl,aq _,zh (fun _=>⟨rfl,rfl,eM.out⟩),zh (fun h=>absurd (.inl rfl) h),zh (oZ.out w2 eM.out),fW,sK,zh (fw.of (eM.out.mono hz1) hBw)⟩
  obtain ⟨j,E,st,rfl,rfl,hj2,BS,Kf,sr,HX,sK,HB⟩:=hrel;rcases (show j=0∨j=1∨j=2 by omega) with rfl|rfl|rfl
  ·
   have c0:=sK.out.r.cell (i:=0) rfl;have c1:=sK.out.r.cell (i:=1) rfl;have c2:=sK.out.r.cell (i:=2) rfl;have c3:=sK.out.r.cell (i:=3) rfl;obtain ⟨rfl,_,lI⟩:=BS.out (.inl rfl);have nL:=zh lI;clear lI Kf;have Fe:b3≤wr.heap.size:=ak hz2 nL.out.size;have ew:=(aj wr.heap.size wr).alloc (ag _) (.cells #[.int .i64 1,.func (.func 144) #[.pointer (some ⟨b,0,none⟩)] #[],.func (.func 145) #[] #[],.func (.func 146) #[] #[.pointer (some ⟨cap,0,none⟩)]] 192);have HY:=zh (dZ.new wr #[.int .i64 1,.func (.func 144) #[.pointer (some ⟨b,0,none⟩)] #[],.func (.func 145) #[] #[],.func (.func 146) #[] #[.pointer (some ⟨cap,0,none⟩)]] 192);go_upto_region 7 with fail;change Code.wp _ _ _ _ (wr.alloc (.cells #[.int .i64 1,.func (.func 144) #[.pointer (some ⟨b,0,none⟩)] #[],.func (.func 145) #[] #[],.func (.func 146) #[] #[.pointer (some ⟨cap,0,none⟩)]] 192))
   obtain ⟨bR,Kg⟩:∃ bR,wr.heap.size=bR:=⟨_,rfl⟩
   rw[Kg] at HY ⊢
   by_cases oD:kind=1
   ·
    have hk:kind=1:=oD;subst hk;clear oD;have lr:=zh (nL.out.trans (ew.mono Fe));have Ff:=zh (CU.out.below (lr.out.mono hz1));have iQ:=zh (HX.out.below ew);have Aj:=zh (sK.out.below ew);clear ew sr HX sK HB nL;generalize wr.alloc (.cells #[.int .i64 1,.func (.func 144) #[.pointer (some ⟨b,0,none⟩)] #[],.func (.func 145) #[] #[],.func (.func 146) #[] #[.pointer (some ⟨cap,0,none⟩)]] 192)=w6 at *;have y0:=HY.out.cell (i:=0) rfl;have y1:=HY.out.cell (i:=1) rfl;have x0:=iQ.out.cell (i:=0) rfl;have x1:=iQ.out.cell (i:=1) rfl;have x2:=iQ.out.cell (i:=2) rfl;have x3:=iQ.out.cell (i:=3) rfl;have x4:=iQ.out.cell (i:=4) rfl;have Fg:b3≤w6.heap.size:=ak hz2 lr.out.size;go_wp2_with fail;refine (FU.out w6 lr.out).mono ?_;rintro e w7 ⟨rfl,oG⟩;have ji:=zh (lr.out.trans (oG.mono Fg));have lu:=zh (Ff.out.below oG)
    have jd:=zh (iQ.out.below oG);have ry:=zh (Aj.out.below oG);have o_:=zh (HY.out.below oG);have o9:b3≤w7.heap.size:=ak hz2 ji.out.size;clear oG y0 y1 x0 x1 x2 x3 x4 lr Ff iQ Aj HY Fg;obtain ⟨cc,hcc⟩:∃ cc,yD P.t q=cc:=⟨_,rfl⟩
    have Ce:=zh hcc;rw[hcc];clear hcc;rcases (show cc=0∨cc=8∨cc=9 by rw[← Ce.out];exact zBy) with rfl|rfl|rfl
    ·
     have Fh:∃ sb,(decide (0<P.bytes)&&decide (16384<P.bytes+(eN dn:Int)))=sb:=⟨_,rfl⟩
     obtain ⟨sb,hsb⟩:=Fh;have AG:=zh hsb;clear hsb;go_upto_region 13 with fail
     go_cut [73] (fun v wx=>v=.bool sb∧Hid (Below w7.heap.size w7 wx))
     case first =>
      have DI:=zh (show ∀ W,Calls Tryz.prog 108 #[CP tk 1 key ck (.slice da dn dc)] W fun e w'=>e=.returned (.int .i64 (eN dn:Int))∧Below W.heap.size W w' from fun W=>jl.out W);have Cf:=zh (show ∀ W,Below b3 w W→dZ W cap #[.pointer (some ⟨b,0,none⟩)] 143→Calls Tryz.prog 145 #[CP tk 1 key ck (.slice da dn dc)] W fun e w'=>e=.returned (.bool true)∧Below W.heap.size W w' from fun W _ _=>fq.out W);have Ow:=Dv;clear FU IW fq nh E5 jl D9 Bd oZ BS jO;obtain ⟨bz,Fi⟩:∃ bz,P.bytes=bz:=⟨_,rfl⟩
      rw[Fi] at lu AG h0 gI;clear Fi
      by_cases hpos:0<bz
      ·
       obtain ⟨bg,hbg⟩:∃ bg,decide (16384<bz+(eN dn:Int))=bg:=⟨_,rfl⟩
       have mM:=zh hbg;have hs:=AG.out;rw[aC hpos,hbg] at hs;simp only[bV] at hs;subst hs;clear AG hbg;have y2:=zB (o_.out.cell (i:=2) rfl);have x0:=zB (jd.out.cell (i:=0) rfl);have x1:=zB (jd.out.cell (i:=1) rfl);have x2:=zB (jd.out.cell (i:=2) rfl);have x3:=zB (jd.out.cell (i:=3) rfl);have x4:=zB (jd.out.cell (i:=4) rfl);have q9:=zB (lu.out.cell (i:=9) rfl);have hg1:decide (0<bz)=true:=aC hpos;have hg2:decide (16384<bz+(eN dn:Int))=bg:=mM.out;refine zC (by kernel_rfl) (by kernel_rfl) ?_
       repeat (go_big_quiet_step (first|exact zE (Cf.out _ (ji.out.trans ((eo.h _).mono o9)) (ry.out.c.below (eo.h _)))|exact zE (DI.out _)))
       refine aA ?_;intro _ hw';obtain ⟨qq,hw'⟩:=hw';subst hw';have eD:=zh qq.h;clear y2 x0 x1 x2 x3 x4 q9;generalize qq.w'=w8 at *;go_wp2_with fail;go_meet
       case rel=>exact ⟨rfl,eD⟩
      obtain rfl:bz=0:=by omega
      have hs:=AG.out;rw[aD hpos] at hs;simp only[bV,dt] at hs;subst hs;clear AG hpos;have y2:=zB (o_.out.cell (i:=2) rfl);have x0:=zB (jd.out.cell (i:=0) rfl);have x1:=zB (jd.out.cell (i:=1) rfl);have x2:=zB (jd.out.cell (i:=2) rfl);have x3:=zB (jd.out.cell (i:=3) rfl);have x4:=zB (jd.out.cell (i:=4) rfl);have q9:=zB (lu.out.cell (i:=9) rfl);refine zC (by kernel_rfl) (by kernel_rfl) ?_
      repeat (go_big_quiet_step (first|exact zE (Cf.out _ (ji.out.trans ((eo.h _).mono o9)) (ry.out.c.below (eo.h _)))|exact zE (DI.out _)))
      refine aA ?_;intro _ hw';obtain ⟨qq,hw'⟩:=hw';subst hw';have eD:=zh qq.h;clear y2 x0 x1 x2 x3 x4 q9;generalize qq.w'=w8 at *;go_wp2_with fail;go_meet
      case rel=>exact ⟨rfl,eD⟩
     obtain ⟨rfl,ny⟩:=hcut;generalize wc=w8 at *;have jX:=zh (ji.out.trans (ny.out.mono o9));have sx:=zh (jd.out.below ny.out);have DJ:=zh (ry.out.below ny.out);have Iu:=zh (o_.out.below ny.out);clear ny jd ry o_ lu ji o9
     cases sb
     ·
      have HF:=zh (UL (q:=q) oH Bq.out Ce.out (show ¬ (0<P.bytes∧16384<P.bytes+(eN q.data.length:Int)) from by
       have hs:=AG.out
       intro hh
       have DR:(decide (0<P.bytes)&&decide (16384<P.bytes+(eN dn:Int)))=true:=by simp only[aN,aR];exact ⟨hh.1,by rw[← HDn.out];exact hh.2⟩
       rw[DR] at hs
       cases hs))
      have y3:=Iu.out.cell (i:=3) rfl;have x0:=sx.out.cell (i:=0) rfl;have x1:=sx.out.cell (i:=1) rfl;have x2:=sx.out.cell (i:=2) rfl;have x3:=sx.out.cell (i:=3) rfl;have x4:=sx.out.cell (i:=4) rfl;have Kh:b3≤w8.heap.size:=ak hz2 jX.out.size;go_wp2_with fail;refine (D9.out w8 cap Ce.out jX.out DJ.out.c).mono ?_;rintro e w9 ⟨rfl,gO,gI⟩;have i_:=zh ((fw.of (jX.out.mono hz1) hBw).trans gI);have oV:=zh (gI.box sx.out (by decide));have Ki:=zh (DJ.out.kept gI);have od:=zh gO;clear gO gI sx DJ Iu jX y3 x0 x1 x2 x3 x4 Kh;go_wp2_with fail;exact ⟨⟨1,0,_,rfl,rfl,by decide,zh (fun h=>by omega),zh (fun _=>HF.out),od,oV,Ki,i_⟩,by simp[intOf]⟩
     have HF:=zh (zBD (q:=q) oH Bq.out Ce.out (show 0<P.bytes∧16384<P.bytes+(eN q.data.length:Int) from by
      have hs:=AG.out
      simp only[aN,aR] at hs
      exact ⟨hs.1,by rw[HDn.out];exact hs.2⟩))
     have iW:=zh (oZ.out w8 jX.out);go_wp2_with fail;go_ret;exact ⟨by rw[HF.out];rfl,by rw[HF.out];exact iW.out,fw.of (jX.out.mono hz1) hBw⟩
    ·
     have HF:=zh (um (q:=q) oH Bq.out (fun h=>by have:=h.1;rw[Ce.out] at this;cases this) (by rw[Ce.out];decide));have iW:=zh (oZ.out w7 ji.out);have fV:=zh (fw.of (ji.out.mono hz1) hBw);have HF8:=zh (show zm P q=(true,more P 8) by have h:=HF.out;rw[Ce.out] at h;exact h);clear HF;go_wp2_with fail;go_meet
     case rel=>exact ⟨8,P,rfl,HF8,iW,fV⟩
    by_cases hcs:vO P.t=true
    ·
     have HF:=zh (zCd (q:=q) oH Bq.out Ce.out hcs);have q0:=lu.out.cell (i:=0) rfl;have q1:=lu.out.cell (i:=1) rfl;have q2:=lu.out.cell (i:=2) rfl;have q3:=lu.out.cell (i:=3) rfl;go_wp2_with fail;refine (E5.out w7 ji.out).mono ?_;rintro e w8 ⟨rfl,Cu⟩;rw[hcs];have jX:=zh (ji.out.trans (Cu.mono o9));have Kj:=lu.out.below Cu;have K6:=zh (jO.out.below (jX.out.mono hz1));have q8:=Kj.cell (i:=8) rfl;have q4:=Kj.cell (i:=4) rfl;have f4:=Kj.frozen 4;obtain ⟨rz,Oh⟩:∃ rz,((P.res.length:Int)==0)=rz:=⟨_,rfl⟩
     have Va:decide (P.res.length=0)=rz:=by
      rw[← Oh]
      by_cases e:P.res.length=0
      ·
       simp[e]
      have e2:¬ (P.res.length:Int)=0:=by omega
      simp[e]
     have jB:gw w8 (w8.setCell ⟨b,4,none⟩ (.bool rz)) B b 145:=gw.pts hlo ⟨_,_,Kj⟩ [(4,.bool rz)];have mH:=zh (K6.out.gK jB);have od:=zh (show rH (w8.setCell ⟨b,4,none⟩ (.bool rz)) b P.t.id P.t.lim P.t.ro ga gn gc rz kv nv (.slice ra P.res.length rc) P.bytes from (by have h:=Kj.set 4 (.bool rz);rw[zLm] at h;exact h));have i_:=zh ((fw.of (jX.out.mono hz1) hBw).pts hlo [(4,.bool rz)] ⟨_,_,Kj⟩ (by decide));clear Cu Kj jB K6 lu jX q0 q1 q2 q3 jd ry o_ ji;go_wp2_with fail;go_ret;exact ⟨by rw[HF.out];rfl,by rw[HF.out,Va];exact ⟨ga,gn,gc,L,kv,ks,nv,es,_,hlo,od.out,⟨mH.out.g,mH.out.gg,mH.out.k,mH.out.kk,mH.out.n,mH.out.nn,mH.out.r⟩⟩,i_.out⟩
    have D8:vO P.t=false:=by simpa using hcs
    have HF:=zh (um (q:=q) oH Bq.out (fun h=>hcs h.2) (by rw[Ce.out];decide));have iW:=zh (oZ.out w7 ji.out);have fV:=zh (fw.of (ji.out.mono hz1) hBw);have q0:=lu.out.cell (i:=0) rfl;have q1:=lu.out.cell (i:=1) rfl;have q2:=lu.out.cell (i:=2) rfl;have q3:=lu.out.cell (i:=3) rfl;go_wp2_with fail;refine (E5.out w7 ji.out).mono ?_;rintro e w8 ⟨rfl,Cu⟩;rw[D8];have jX:=zh (ji.out.trans (Cu.mono o9));have Vb:=zh (oZ.out w8 jX.out);have Vc:=zh (fw.of (jX.out.mono hz1) hBw);have HF9:=zh (show zm P q=(true,more P 9) by have h:=HF.out;rw[Ce.out] at h;exact h);clear Cu iW fV q0 q1 q2 q3 HF;go_wp2_with fail;go_meet
    case rel=>exact ⟨9,P,rfl,HF9,Vb,Vc⟩
   have lr:=zh (nL.out.trans (ew.mono Fe));have iQ:=zh (HX.out.below ew);have Aj:=zh (sK.out.below ew);have iW:=zh (oZ.out _ lr.out);clear ew sr HX sK HB nL c0 c1 c2 c3;generalize wr.alloc (.cells #[.int .i64 1,.func (.func 144) #[.pointer (some ⟨b,0,none⟩)] #[],.func (.func 145) #[] #[],.func (.func 146) #[] #[.pointer (some ⟨cap,0,none⟩)]] 192)=w6 at *;have y0:=HY.out.cell (i:=0) rfl;have x1:=iQ.out.cell (i:=1) rfl;have hk2:¬ (1:Int)=kind:=fun h=>oD h.symm
   have fV:=zh (fw.of (lr.out.mono hz1) hBw);go_wp2_with fail;exact ⟨⟨1,1,P,rfl,rfl,by decide,zh (fun _=>⟨rfl,rfl,lr.out⟩),zh (fun h=>absurd (.inr (.inl ⟨rfl,oD⟩)) h),iW,iQ,Aj,fV⟩,by simp[intOf]⟩
  ·
   have c0:=sK.out.r.cell (i:=4) rfl;have c1:=sK.out.r.cell (i:=5) rfl;have c2:=sK.out.r.cell (i:=6) rfl;have c3:=sK.out.r.cell (i:=7) rfl
   by_cases Vd:kind=1
   ·
    have nM:=Kf.out (by omega);have Ve:=zh nM;clear nM Kf BS;subst Vd;have x1:=HX.out.cell (i:=1) rfl;have ew:=(aj wr.heap.size wr).alloc (ag _) (.cells #[.int .i64 2,.func (.func 149) #[.pointer (some ⟨b,0,none⟩)] #[],.func (.func 150) #[] #[.pointer (some ⟨cap,0,none⟩)],.func (.func 152) #[.pointer (some ⟨b,0,none⟩)] #[]] 192);have AP:B≤wr.heap.size:=ak hB (ak hz2 HB.out.size);have Fj:=zh (sr.out.below ew);have fW:=zh (HX.out.below ew);have Vf:=zh (sK.out.below ew);have eM:=zh (HB.out.step ew AP);have x1:=fW.out.cell (i:=1) rfl;clear ew;go_wp2_with fail;exact ⟨⟨2,E,st,rfl,rfl,ag _,zh (fun h=>by omega),zh (fun _=>Ve.out),Fj,fW,Vf,eM⟩,by simp[intOf]⟩
   obtain ⟨rfl,_,lI⟩:=BS.out (.inr (.inl ⟨rfl,Vd⟩));have nL:=zh lI;clear lI Kf;have Fe:b3≤wr.heap.size:=ak hz2 nL.out.size;have ew:=(aj wr.heap.size wr).alloc (ag _) (.cells #[.int .i64 2,.func (.func 149) #[.pointer (some ⟨b,0,none⟩)] #[],.func (.func 150) #[] #[.pointer (some ⟨cap,0,none⟩)],.func (.func 152) #[.pointer (some ⟨b,0,none⟩)] #[]] 192);have HY:=zh (dZ.new wr #[.int .i64 2,.func (.func 149) #[.pointer (some ⟨b,0,none⟩)] #[],.func (.func 150) #[] #[.pointer (some ⟨cap,0,none⟩)],.func (.func 152) #[.pointer (some ⟨b,0,none⟩)] #[]] 192);go_upto_region 7 with fail;change Code.wp _ _ _ _ (wr.alloc (.cells #[.int .i64 2,.func (.func 149) #[.pointer (some ⟨b,0,none⟩)] #[],.func (.func 150) #[] #[.pointer (some ⟨cap,0,none⟩)],.func (.func 152) #[.pointer (some ⟨b,0,none⟩)] #[]] 192));obtain ⟨bR,Kg⟩:∃ bR,wr.heap.size=bR:=⟨_,rfl⟩
   rw[Kg] at HY ⊢
   by_cases oD:kind=2
   ·
    have hk:kind=2:=oD;subst hk;clear oD;have lr:=zh (nL.out.trans (ew.mono Fe));have Ff:=zh (CU.out.below (lr.out.mono hz1));have iQ:=zh (HX.out.below ew);have Aj:=zh (sK.out.below ew);clear ew sr HX sK HB nL;generalize wr.alloc (.cells #[.int .i64 2,.func (.func 149) #[.pointer (some ⟨b,0,none⟩)] #[],.func (.func 150) #[] #[.pointer (some ⟨cap,0,none⟩)],.func (.func 152) #[.pointer (some ⟨b,0,none⟩)] #[]] 192)=w6 at *;have y0:=HY.out.cell (i:=0) rfl;have y1:=HY.out.cell (i:=1) rfl;have x0:=iQ.out.cell (i:=0) rfl;have x1:=iQ.out.cell (i:=1) rfl;have x2:=iQ.out.cell (i:=2) rfl;have x3:=iQ.out.cell (i:=3) rfl;have x4:=iQ.out.cell (i:=4) rfl;have Fg:b3≤w6.heap.size:=ak hz2 lr.out.size;go_wp2_with fail;refine (IW.out w6 lr.out).mono ?_;rintro e w7 ⟨rfl,oG⟩;have ji:=zh (lr.out.trans (oG.mono Fg));have lu:=zh (Ff.out.below oG)
    have jd:=zh (iQ.out.below oG);have ry:=zh (Aj.out.below oG);have o_:=zh (HY.out.below oG);have o9:b3≤w7.heap.size:=ak hz2 ji.out.size;clear oG y0 y1 x0 x1 x2 x3 x4 lr Ff iQ Aj HY Fg;obtain ⟨cc,hcc⟩:∃ cc,yd P.t q=cc:=⟨_,rfl⟩
    have Ce:=zh hcc;rw[hcc];clear hcc;rcases (show cc=0∨cc=6 by rw[← Ce.out];exact zD8) with rfl|rfl
    ·
     have Fh:∃ sb,(wC P.t key&&(decide (0<P.bytes)&&decide (16384<P.bytes+24)))=sb:=⟨_,rfl⟩
     obtain ⟨sb,hsb⟩:=Fh;have AG:=zh hsb;clear hsb;go_upto_region 13 with fail
     go_cut [73] (fun v wx=>v=.bool sb∧Hid (Below w7.heap.size w7 wx))
     case first =>
      have DI:=zh (show ∀ W,Calls Tryz.prog 108 #[CP tk 2 key ck (.slice da dn dc)] W fun e w'=>e=.returned (.int .i64 24)∧Below W.heap.size W w' from fun W=>jl.out W);have Cf:=zh (show ∀ W,Below b3 w W→dZ W cap #[.pointer (some ⟨b,0,none⟩)] 143→Calls Tryz.prog 150 #[CP tk 2 key ck (.slice da dn dc),.pointer (some ⟨cap,0,none⟩)] W fun e w'=>e=.returned (.bool (wC P.t key))∧Below W.heap.size W w' from fun W hb hc=>nh.out W cap hb hc);have Ow:=Dv;clear FU IW fq nh E5 jl D9 Bd oZ BS jO;obtain ⟨bz,Fi⟩:∃ bz,P.bytes=bz:=⟨_,rfl⟩
      rw[Fi] at lu AG h0 gI;clear Fi;obtain ⟨tb,E_⟩:∃ tb,wC P.t key=tb:=⟨_,rfl⟩
      rw[E_] at Cf AG;clear E_
      cases tb
      ·
       have hs:=AG.out;rw[dt] at hs;subst hs;clear AG;have y2:=zB (o_.out.cell (i:=2) rfl);have x0:=zB (jd.out.cell (i:=0) rfl);have x1:=zB (jd.out.cell (i:=1) rfl);have x2:=zB (jd.out.cell (i:=2) rfl);have x3:=zB (jd.out.cell (i:=3) rfl);have x4:=zB (jd.out.cell (i:=4) rfl);refine zC (by kernel_rfl) (by kernel_rfl) ?_
       repeat (go_big_quiet_step (first|exact zE (Cf.out _ (ji.out.trans ((eo.h _).mono o9)) (ry.out.c.below (eo.h _)))|exact zE (DI.out _)))
       refine aA ?_;intro _ hw';obtain ⟨qq,hw'⟩:=hw';subst hw';have eD:=zh qq.h;clear y2 x0 x1 x2 x3 x4;generalize qq.w'=w8 at *;go_wp2_with fail;go_meet
       case rel=>exact ⟨rfl,eD⟩
      by_cases hpos:0<bz
      ·
       obtain ⟨bg,hbg⟩:∃ bg,decide (16384<bz+24)=bg:=⟨_,rfl⟩
       have mM:=zh hbg;have hs:=AG.out;rw[aC hpos,hbg] at hs;simp only[bV] at hs;subst hs;clear AG hbg;have y2:=zB (o_.out.cell (i:=2) rfl);have x0:=zB (jd.out.cell (i:=0) rfl);have x1:=zB (jd.out.cell (i:=1) rfl);have x2:=zB (jd.out.cell (i:=2) rfl);have x3:=zB (jd.out.cell (i:=3) rfl);have x4:=zB (jd.out.cell (i:=4) rfl);have q9:=zB (lu.out.cell (i:=9) rfl);have hg1:decide (0<bz)=true:=aC hpos;have hg2:decide (16384<bz+24)=bg:=mM.out;refine zC (by kernel_rfl) (by kernel_rfl) ?_
       repeat (go_big_quiet_step (first|exact zE (Cf.out _ (ji.out.trans ((eo.h _).mono o9)) (ry.out.c.below (eo.h _)))|exact zE (DI.out _)))
       refine aA ?_;intro _ hw';obtain ⟨qq,hw'⟩:=hw';subst hw';have eD:=zh qq.h;clear y2 x0 x1 x2 x3 x4 q9;generalize qq.w'=w8 at *;go_wp2_with fail;go_meet
       case rel=>exact ⟨rfl,eD⟩
      obtain rfl:bz=0:=by omega
      have hs:=AG.out;rw[aD hpos] at hs;simp only[bV,dt] at hs;subst hs;clear AG hpos;have y2:=zB (o_.out.cell (i:=2) rfl);have x0:=zB (jd.out.cell (i:=0) rfl);have x1:=zB (jd.out.cell (i:=1) rfl);have x2:=zB (jd.out.cell (i:=2) rfl);have x3:=zB (jd.out.cell (i:=3) rfl);have x4:=zB (jd.out.cell (i:=4) rfl);have q9:=zB (lu.out.cell (i:=9) rfl);refine zC (by kernel_rfl) (by kernel_rfl) ?_
      repeat (go_big_quiet_step (first|exact zE (Cf.out _ (ji.out.trans ((eo.h _).mono o9)) (ry.out.c.below (eo.h _)))|exact zE (DI.out _)))
      refine aA ?_;intro _ hw';obtain ⟨qq,hw'⟩:=hw';subst hw';have eD:=zh qq.h;clear y2 x0 x1 x2 x3 x4 q9;generalize qq.w'=w8 at *;go_wp2_with fail;go_meet
      case rel=>exact ⟨rfl,eD⟩
     obtain ⟨rfl,ny⟩:=hcut;generalize wc=w8 at *;have jX:=zh (ji.out.trans (ny.out.mono o9));have sx:=zh (jd.out.below ny.out);have DJ:=zh (ry.out.below ny.out);have Iu:=zh (o_.out.below ny.out);clear ny jd ry o_ lu ji o9
     cases sb
     ·
      have HF:=zh (qk (q:=q) oH Bq.out Ce.out (show ¬ (wC P.t q.key=true∧0<P.bytes∧16384<P.bytes+24) from by
       have hs:=AG.out
       intro hh
       have DR:(wC P.t key&&(decide (0<P.bytes)&&decide (16384<P.bytes+24)))=true:=by simp only[aN,aR];exact ⟨by rw[← Qr.out];exact hh.1,hh.2⟩
       rw[DR] at hs
       cases hs))
      have y3:=Iu.out.cell (i:=3) rfl;have x0:=sx.out.cell (i:=0) rfl;have x1:=sx.out.cell (i:=1) rfl;have x2:=sx.out.cell (i:=2) rfl;have x3:=sx.out.cell (i:=3) rfl;have x4:=sx.out.cell (i:=4) rfl;have Kh:b3≤w8.heap.size:=ak hz2 jX.out.size;go_wp2_with fail;refine (Bd.out w8 jX.out).mono ?_;rintro e w9 ⟨rfl,gO,gI⟩;have i_:=zh ((fw.of (jX.out.mono hz1) hBw).trans gI);have oV:=zh (gI.box sx.out (by decide));have Ki:=zh (DJ.out.kept gI);have od:=zh gO;clear gO gI sx DJ Iu jX y3 x0 x1 x2 x3 x4 Kh;go_wp2_with fail;exact ⟨⟨2,0,_,rfl,rfl,by decide,zh (fun h=>by omega),zh (fun _=>HF.out),od,oV,Ki,i_⟩,by simp[intOf]⟩
     have HF:=zh (zBa (q:=q) oH Bq.out Ce.out (show wC P.t q.key=true∧0<P.bytes∧16384<P.bytes+24 from by
      have hs:=AG.out
      simp only[aN,aR] at hs
      exact ⟨by rw[Qr.out];exact hs.1,hs.2⟩))
     have iW:=zh (oZ.out w8 jX.out);go_wp2_with fail;go_ret;exact ⟨by rw[HF.out];rfl,by rw[HF.out];exact iW.out,fw.of (jX.out.mono hz1) hBw⟩
    have HF:=zh (qy (q:=q) oH Bq.out Ce.out);have iW:=zh (oZ.out w7 ji.out);have fV:=zh (fw.of (ji.out.mono hz1) hBw);go_wp2_with fail;go_meet
    case rel=>exact ⟨6,P,rfl,HF,iW,fV⟩
   have lr:=zh (nL.out.trans (ew.mono Fe));have iQ:=zh (HX.out.below ew);have Aj:=zh (sK.out.below ew);have iW:=zh (oZ.out _ lr.out);clear ew sr HX sK HB nL c0 c1 c2 c3;generalize wr.alloc (.cells #[.int .i64 2,.func (.func 149) #[.pointer (some ⟨b,0,none⟩)] #[],.func (.func 150) #[] #[.pointer (some ⟨cap,0,none⟩)],.func (.func 152) #[.pointer (some ⟨b,0,none⟩)] #[]] 192)=w6 at *;have y0:=HY.out.cell (i:=0) rfl;have x1:=iQ.out.cell (i:=1) rfl;have hk2:¬ (2:Int)=kind:=fun h=>oD h.symm
   have fV:=zh (fw.of (lr.out.mono hz1) hBw);go_wp2_with fail;exact ⟨⟨2,1,P,rfl,rfl,by decide,zh (fun _=>⟨rfl,rfl,lr.out⟩),zh (fun h=>absurd (.inr (.inr ⟨rfl,Vd,oD⟩)) h),iW,iQ,Aj,fV⟩,by simp[intOf]⟩
  by_cases Vg:kind≠1∧kind≠2
  ·
   obtain ⟨rfl,_,lI⟩:=BS.out (.inr (.inr ⟨rfl,Vg⟩));have iW:=zh (oZ.out _ lI);have HF:=zh (zAU (P:=P) (q:=q) oH (by rw[Bq.out];exact Vg.1) (by rw[Bq.out];exact Vg.2));clear BS Kf lI;go_wp2_with fail;go_meet
   case rel=>exact ⟨1,P,rfl,HF,iW,HB⟩
  have HF:=zh (Kf.out (fun h=>by omega));clear BS Kf;go_wp2_with fail;go_meet
  case rel=>exact ⟨E,st,rfl,HF,sr,HB⟩
 obtain ⟨E,st,rfl,HF,sr,HB⟩:=hcut;generalize wc=v1 at *;obtain ⟨iI,iJ,gc',L',rh,nO,nG,es',DG,jh,rj,rq⟩:=sr.out;obtain ⟨Oe,Og,ru,E6,E7,_⟩:=zH rq.r;subst ru;have abB:st.res.length≤16:=by
  have h:=(qR P q J9).1;rw[HF.out] at h;unfold more at h;simp only[aw,aV,dI] at h;omega
 have hB1:B≤v1.heap.size:=ak hBw HB.out.size;have q8:=rj.cell (i:=8) rfl;have ew:=(aj v1.heap.size v1).alloc (ag _) (.cells #[.int .i64 E] 39);have oh:=zh (rj.below ew);have jW:=zh (rq.below ew);have mj:=zh (HB.out.step ew hB1);have gR:=zh jW.out.r;have o7:=ak hB1 ew.size;clear ew rj rq sr HB FU IW fq nh E5 jl D9 Bd oZ fW eM sK CU jO;go_wp2_with (at_builtin;go_must (refine zP (n:=st.res.length) (m:=1) rfl (.tmp 84) (.tmp 86) 69 rfl qt B rfl gR.out rfl (Rd.jD v1.heap.size v1 rfl 1 [.int .i64 E] 39 1 rfl (by decide)) (fun u hu=>by simp only[aX,aY,aZ] at hu;rw[hu];rfl) (by unfold maxLen;omega) (by omega) o7 ?_);intro v3 w3 ei eL hv3;clear hv3;obtain ⟨oa,oc,ev,_,_,_⟩:=zH ei;subst ev;have gO:=oh.out.eY (fA.row gR.out eL (ag B)) (by decide);have c8:=gO.cell (i:=8) rfl;have f8:=gO.frozen 8)
 have jB:gw w3 (w3.setCell ⟨b,8,none⟩ (.slice oa (st.res.length+1) oc)) B b 145:=gw.pts jh ⟨_,_,gO⟩ [(8,.slice oa (st.res.length+1) oc)];have mH:=zh ((jW.out.res E eL ei).1.gK jB);have od:=zh (show rH (w3.setCell ⟨b,8,none⟩ (.slice oa (st.res.length+1) oc)) b st.t.id st.t.lim st.t.ro iI iJ gc' st.ey rh nG (.slice oa (st.res.length+1) oc) st.bytes from (by have h:=gO.set 8 (.slice oa (st.res.length+1) oc);rw[zMC] at h;exact h));have i_:=zh ((mj.out.own gR.out o7 eL (by decide)).pts jh [(8,.slice oa (st.res.length+1) oc)] ⟨_,_,gO⟩ (by decide));clear ei eL gO jB c8 f8 q8;go_wp2_with fail;go_ret;exact ⟨by rw[HF.out];rfl,by rw[HF.out];exact ⟨iI,iJ,gc',L',rh,nO,nG,es',_,jh,od.out,mH.out⟩,i_.out⟩
end Go.Proofs.YtcgfilmmokmdjaaGreat
