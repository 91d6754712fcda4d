import Derived.Test.YtcgfilmmokmdjaaGreatQAP
set_option linter.all false
set_option maxRecDepth 100000
set_option maxHeartbeats 32000000
namespace Go.Proofs.YtcgfilmmokmdjaaGreat
open Go.Proofs.Tryz
open Go.RowKit
def zB0 {l:List Int} {i:Nat} (h:i<l.length):l.take (i+1)=l.take i++[pW l i]:=by
 unfold pW;rw[cQ,aA h,aw,aA h];rfl
def Xk (g:Gn) (s:Sl) (v:Value) (ks:List Int) (w:World) (h:fN w s g.m.st) (hs:∀ i,i<8->(g.m.st i).length<=9000) (hr:mM w v ks) (hkl:ks.length<=100000) :
  Calls prog 46 #[ze g.num g.rev g.mode g.size s g.m.live g.m.ew,v] w (Pr w s g.m.st (yh g ks)):=by
 obtain ⟨va,vc,rfl,Ai,hv2,_⟩:=hr.shape 0;have Fy:∀ i,i<8->(g.m.st i).length<=10000:=fun i hi=>ak (hs i hi) (by omega)
 have HV:=zh (fun W (hb:Below w.heap.size w W)=>uX g s W (h.bb hb) Fy);have iw:=zh hr;have Gq:=zh h;have jC:Hid (∀ W,fl W w.heap.size s g.m.st Sl.nil gX.m.st):=zh (fun W=>fl.nil W _ _ _);have HG:Hid (yh g ks=if we g=true then (if g.mode=1 then (12,gX) else (0,{g with m:=ks.foldl yX g.m})) else (1,gX)):=zh (rfl);have jJ:=zh (fun i=>wm (ks.take i) g.m hs);have jY:Hid (∀ i,i<ks.length->(ks.take (i+1)).foldl yX g.m=yX ((ks.take i).foldl yX g.m) (pW ks i)):=zh (fun i hi=>by rw[zB0 hi,dQ];rfl);have nN:Hid (ks.take ks.length=ks):=zh (bQ);clear hr h hs Fy;generalize hnn:ks.length=n at *;have WB:=zh hnn;clear hnn;obtain ⟨gn,rv,md,z,⟨f,L,G⟩⟩:=g;generalize rh:(⟨gn,rv,md,z,⟨f,L,G⟩⟩:Gn)=g at *;have WC:=zh rh;obtain ⟨W,hW,fJ,hbr,fS⟩:=vS w gn rv md z s L G 113;have HX:=zh fJ;have HR:=zh hbr
 have HB:=zh fS;clear fJ hbr fS;generalize yh g ks=TG at *;generalize we g=vb at *;subst rh;dsimp only at *;obtain ⟨M0,BO⟩:∃ M0:Mp,(⟨f,L,G⟩:Mp)=M0:=⟨_,rfl⟩
 rw[BO] at jJ jY;have Je:Hid ((ks.take 0).foldl yX M0=⟨f,L,G⟩):=zh (BO.symm);have Am:Hid (vb=true->md≠1->TG=(0,⟨gn,rv,md,z,ks.foldl yX M0⟩)):=zh (fun e1 e2=>by rw[HG.o,ah e1,ai e2,BO]);clear BO
 go_enter func46,ntmps46
 go_upto_region 1 with fail;change Code.wp _ _ _ _ ((w.alloc (.cells (zU gn rv md z s L G) 113)).alloc (.cells (zU 0 0 0 0 Sl.nil 0 0) 113));rw[hW];clear hW;obtain ⟨x0,x1,x2,x3,x4,x5,x6,x7,x8,x9,gP,gQ,gK,gM⟩:=HX.o.q;go_wp2_with fail;refine (HV.o _ HB.o).mono ?_;rintro e w1 ⟨rfl,hb1⟩;have fG:=zh (HX.o.bb hb1);have fL:=zh (HR.o.bb hb1);have eV:=zh (zA HB.o hb1);have hlr:w.heap.size+1<W.heap.size:=HR.o.lt;have Xl:=fL.o.lt;clear x0 x1 x2 x3 x4 x5 x6 x7 x8 x9 gP gQ gK gM;clear hb1 HX HR HB HV
 cases vb
 ·have jM:=zh (show TG=(1,gX) by rw[HG.o];rfl);obtain ⟨r0,r1,r2,r3,r4,r5,r6,r7,r8,r9,nL,mD,mR,pK⟩:=fL.o.q;have rf:=fL.o.f;go_wp2_with fail;change bodyPost _ _ _ _ _ (pts w1 (w.heap.size+1) (zS 0 0 0 0 Sl.nil 0 0));have hby:=fL.o.all 0 0 0 0 Sl.nil 0 0;have eN:=zh (zC (B:=w.heap.size) (b:=(w.heap.size+1)) (by omega) (zS 0 0 0 0 Sl.nil 0 0) eV.o);have iH:=jC.o (pts w1 (w.heap.size+1) (zS 0 0 0 0 Sl.nil 0 0));rw[jM.o];generalize pts w1 (w.heap.size+1) (zS 0 0 0 0 Sl.nil 0 0)=V at *;exact au (v:=.tuple #[ze 0 0 0 0 Sl.nil 0 0,.int .i64 1]) (by simp[results,results46,go_sem,hby.q]) rfl ⟨⟨_,rfl,iH⟩,eN.o⟩
 by_cases pF:md=1
 ·have jM:=zh (show TG=(12,gX) by rw[HG.o,ah rfl,ah pF]);have e1:(md==1)=true:=by rw[pF];rfl
  clear HG Am;obtain ⟨x0,x1,x2,x3,x4,x5,x6,x7,x8,x9,gP,gQ,gK,gM⟩:=fG.o.q;obtain ⟨r0,r1,r2,r3,r4,r5,r6,r7,r8,r9,nL,mD,mR,pK⟩:=fL.o.q;have rf:=fL.o.f;go_wp2_with fail;change bodyPost _ _ _ _ _ (pts w1 (w.heap.size+1) (zS 0 0 0 0 Sl.nil 0 0));have hby:=fL.o.all 0 0 0 0 Sl.nil 0 0;have eN:=zh (zC (B:=w.heap.size) (b:=(w.heap.size+1)) (by omega) (zS 0 0 0 0 Sl.nil 0 0) eV.o);have iH:=jC.o (pts w1 (w.heap.size+1) (zS 0 0 0 0 Sl.nil 0 0));rw[jM.o];generalize pts w1 (w.heap.size+1) (zS 0 0 0 0 Sl.nil 0 0)=V at *;exact au (v:=.tuple #[ze 0 0 0 0 Sl.nil 0 0,.int .i64 12]) (by simp[results,results46,go_sem,hby.q]) rfl ⟨⟨_,rfl,iH⟩,eN.o⟩
 have jM:=zh (Am.o rfl pF);have e1:(md==1)=false:=beq_eq_false_iff_ne.2 pF;clear HG Am;obtain ⟨x0,x1,x2,x3,x4,x5,x6,x7,x8,x9,gP,gQ,gK,gM⟩:=fG.o.q;have xf:=fG.o.f;go_wp2_with fail
 go_loopw [6] (fun iv W=>∃ (i:Nat) (si:Sl),iv=.int .i64 (i:Int)/\i<=n/\Hid (eU W w.heap.size gn rv md z si ((ks.take i).foldl yX M0).live ((ks.take i).foldl yX M0).ew)/\Hid (fl W (w.heap.size+2) s f si ((ks.take i).foldl yX M0).st)/\Hid (eU W (w.heap.size+1) 0 0 0 0 Sl.nil 0 0)/\Hid (Below w.heap.size w W)) (fun iv _=>n-(intOf iv).toNat)
 case atStart=>exact ⟨0,s,rfl,aq _,by rw[Je.o];exact fG,by rw[Je.o];exact zh (fl.refl _ _ _ _),fL,eV⟩
 obtain ⟨i,si,rfl,hi,pM,AQ,lF,jI⟩:=hrel;clear fG fL eV
 by_cases hlt:i<n
 ·have i1:(i:Int)<(n:Int):=by omega
  obtain ⟨b,off,rfl,c0⟩:=mM.at (il.bb iw.o jI.o) hlt;have D4:=zh (jJ.o i);have rC:=zh (jY.o i hlt);generalize pW ks i=key at c0 rC;generalize (ks.take i).foldl yX M0=Mi at *;obtain ⟨df,dL,dG⟩:=Mi;dsimp only at *;obtain ⟨x4,x5,x6,x7,x8,x9,gP,gQ,gK,gM⟩:=pM.o.q;have HP:=zh (zEz si ⟨df,dL,dG⟩ key wr.drew (AQ.o.rd Gq.o jI.o|>.bb (zV (aj _ _))) D4.o);go_upto_region 8 with fail;refine wp_region_still_tail 6 (by kernel_rfl) (by kernel_rfl) ?_;simp only[dP,List.take_zero,List.drop_succ_cons,List.drop_zero];change wpStill prog _ (World.drew _) _ _ _
  repeat still_step
  refine wpStill_nil ?_;change wpList _ _ _ _ _ (World.drew _);generalize yX ⟨df,dL,dG⟩ key=M4 at *;obtain ⟨bf,bL,bG⟩:=M4;dsimp only at HP;go_wp2_with fail;refine (HP.o).mono ?_;rintro e w5 ⟨⟨s4,rfl,ho⟩,hb5⟩;replace hb5:=zA (zV (aj wr.heap.size wr)) hb5;have hsz:=hb5.size;have P3:=lF.o.lt;have jA:=zh (AQ.o.step ho hb5 (show w.heap.size+2<=wr.drew.heap.size from P3));have gj:=zh (pM.o.bb hb5);have jN:=zh (lF.o.bb hb5);have gW:=zh (zA jI.o hb5);clear c0 pM lF jI AQ ho hb5 HP x4 x5 x6 x7 x8 x9 gP gQ gK gM;obtain ⟨x4,x5,x6,x7,x8,x9,gP,gQ,gK,gM⟩:=gj.o.q;have xf:=gj.o.f;go_upto_region 7 with fail;change Code.wp _ _ _ _ (pts w5 w.heap.size (xN s4 bL bG));have jr:=zh (gj.o.map s4 bL bG);have Dq:=zh (jN.o.eL (show w.heap.size+1≠w.heap.size by omega) (xN s4 bL bG))
  have jH:=zh (zC (B:=w.heap.size) (b:=w.heap.size) (ag _) (xN s4 bL bG) gW.o);have o7:=zh (jA.o.pts (show w.heap.size<w.heap.size+2 by omega) (xN s4 bL bG));generalize pts w5 w.heap.size (xN s4 bL bG)=w6 at *;clear gj jN gW jA xf x4 x5 x6 x7 x8 x9 gP gQ gK gM;go_wp2_with fail
  go_roundw
  case rel =>
   refine ⟨i+1,s4,by go_num,by omega,?_,?_,Dq,jH⟩
   ·rw[rC.o];exact jr
   rw[rC.o];exact o7
  case measure=>simp[intOf];omega
 have hin:i=n:=by omega
 rw[hin,nN.o] at pM AQ;rw[hin];clear hin hi;generalize ks.foldl yX M0=gA at *;obtain ⟨af,aL,aG⟩:=gA;dsimp only at pM AQ;obtain ⟨x0,x1,x2,x3,x4,x5,x6,x7,x8,x9,gP,gQ,gK,gM⟩:=pM.o.q;obtain ⟨r0,r1,r2,r3,r4,r5,r6,r7,r8,r9,nL,mD,mR,pK⟩:=lF.o.q;have rf:=lF.o.f;go_wp2_with fail;change bodyPost _ _ _ _ _ (pts wr (w.heap.size+1) (zS gn rv md z si aL aG));have hby:=lF.o.all gn rv md z si aL aG;have eN:=zh (zC (B:=w.heap.size) (b:=(w.heap.size+1)) (by omega) (zS gn rv md z si aL aG) jI.o);have iH:=(AQ.o.pts (show w.heap.size+1<w.heap.size+2 by omega) (zS gn rv md z si aL aG)).mono (show w.heap.size<=w.heap.size+2 by omega);rw[jM.o];generalize pts wr (w.heap.size+1) (zS gn rv md z si aL aG)=V at *
 exact au (v:=.tuple #[ze gn rv md z si aL aG,.int .i64 0]) (by simp[results,results46,go_sem,hby.q]) rfl ⟨⟨_,rfl,iH⟩,eN.o⟩
def zLE (g:Gn) (s:Sl) (v:Value) (ks:List Int) (w:World) (h:fN w s g.m.st) (hs:∀ i,i<8->(g.m.st i).length<=9000) (hr:mM w v ks) (hkl:ks.length<=100000) :
  Calls prog 29 #[ze g.num g.rev g.mode g.size s g.m.live g.m.ew,v] w (NC w (yh g ks)):=by
 obtain ⟨va,vc,rfl,Ai,hv2,_⟩:=hr.shape 0;have Fy:∀ i,i<8->(g.m.st i).length<=10000:=fun i hi=>ak (hs i hi) (by omega)
 have HV:=zh (fun W (hb:Below w.heap.size w W)=>uQ g s W (h.bb hb) Fy);have iw:=zh hr;have Gq:=zh h;have jC:Hid (∀ W,fA W w.heap.size Sl.nil gX.m.st):=zh (fun W=>fA.nil W _);have HW:=zh (fun W (hb:Below w.heap.size w W)=>uN s g.m 0 W (h.bb hb) Fy);rw[uV] at HW;have HG:Hid (yh g ks=if we g=true then (if g.mode=1 then (12,gX) else (0,{g with m:=ks.foldl yX g.m})) else (1,gX)):=zh (rfl);have jJ:=zh (fun i=>wm (ks.take i) g.m hs);have jY:Hid (∀ i,i<ks.length->(ks.take (i+1)).foldl yX g.m=yX ((ks.take i).foldl yX g.m) (pW ks i)):=zh (fun i hi=>by rw[zB0 hi,dQ];rfl);have nN:Hid (ks.take ks.length=ks):=zh (bQ);clear hr h hs Fy;generalize hnn:ks.length=n at *;have WB:=zh hnn;clear hnn;obtain ⟨gn,rv,md,z,⟨f,L,G⟩⟩:=g;generalize rh:(⟨gn,rv,md,z,⟨f,L,G⟩⟩:Gn)=g at *;have WC:=zh rh
 obtain ⟨W,hW,fJ,hbr,fS⟩:=vS w gn rv md z s L G 38;have HX:=zh fJ;have HR:=zh hbr;have HB:=zh fS;clear fJ hbr fS;generalize yh g ks=TG at *;generalize we g=vb at *;subst rh;dsimp only at *;obtain ⟨M0,BO⟩:∃ M0:Mp,(⟨f,L,G⟩:Mp)=M0:=⟨_,rfl⟩
 rw[BO] at jJ jY;have Je:Hid ((ks.take 0).foldl yX M0=⟨f,L,G⟩):=zh (BO.symm);have Am:Hid (vb=true->md≠1->TG=(0,⟨gn,rv,md,z,ks.foldl yX M0⟩)):=zh (fun e1 e2=>by rw[HG.o,ah e1,ai e2,BO]);clear BO
 go_enter func29,ntmps29
 go_upto_region 1 with fail;change Code.wp _ _ _ _ ((w.alloc (.cells (zU gn rv md z s L G) 38)).alloc (.cells (zU 0 0 0 0 Sl.nil 0 0) 38));rw[hW];clear hW;obtain ⟨x0,x1,x2,x3,x4,x5,x6,x7,x8,x9,gP,gQ,gK,gM⟩:=HX.o.q;go_wp2_with fail;refine (HV.o _ HB.o).mono ?_;rintro e w1 ⟨rfl,hb1⟩;have fG:=zh (HX.o.bb hb1);have fL:=zh (HR.o.bb hb1);have eV:=zh (zA HB.o hb1);have hlr:w.heap.size+1<W.heap.size:=HR.o.lt;have Xl:=fL.o.lt;clear x0 x1 x2 x3 x4 x5 x6 x7 x8 x9 gP gQ gK gM;clear hb1 HX HR HB HV
 cases vb
 ·have jM:=zh (show TG=(1,gX) by rw[HG.o];rfl);obtain ⟨r0,r1,r2,r3,r4,r5,r6,r7,r8,r9,nL,mD,mR,pK⟩:=fL.o.q;have rf:=fL.o.f;go_wp2_with fail;change bodyPost _ _ _ _ _ (pts w1 (w.heap.size+1) (zS 0 0 0 0 Sl.nil 0 0));have hby:=fL.o.all 0 0 0 0 Sl.nil 0 0;have eN:=zh (zC (B:=w.heap.size) (b:=(w.heap.size+1)) (by omega) (zS 0 0 0 0 Sl.nil 0 0) eV.o);have iH:=jC.o (pts w1 (w.heap.size+1) (zS 0 0 0 0 Sl.nil 0 0));rw[jM.o];generalize pts w1 (w.heap.size+1) (zS 0 0 0 0 Sl.nil 0 0)=V at *;exact au (v:=.tuple #[ze 0 0 0 0 Sl.nil 0 0,.int .i64 1]) (by simp[results,results29,go_sem,hby.q]) rfl ⟨⟨_,rfl,iH⟩,eN.o⟩
 by_cases pF:md=1
 ·have jM:=zh (show TG=(12,gX) by rw[HG.o,ah rfl,ah pF]);have e1:(md==1)=true:=by rw[pF];rfl
  clear HG Am;obtain ⟨x0,x1,x2,x3,x4,x5,x6,x7,x8,x9,gP,gQ,gK,gM⟩:=fG.o.q;obtain ⟨r0,r1,r2,r3,r4,r5,r6,r7,r8,r9,nL,mD,mR,pK⟩:=fL.o.q;have rf:=fL.o.f;go_wp2_with fail;change bodyPost _ _ _ _ _ (pts w1 (w.heap.size+1) (zS 0 0 0 0 Sl.nil 0 0));have hby:=fL.o.all 0 0 0 0 Sl.nil 0 0;have eN:=zh (zC (B:=w.heap.size) (b:=(w.heap.size+1)) (by omega) (zS 0 0 0 0 Sl.nil 0 0) eV.o);have iH:=jC.o (pts w1 (w.heap.size+1) (zS 0 0 0 0 Sl.nil 0 0));rw[jM.o];generalize pts w1 (w.heap.size+1) (zS 0 0 0 0 Sl.nil 0 0)=V at *;exact au (v:=.tuple #[ze 0 0 0 0 Sl.nil 0 0,.int .i64 12]) (by simp[results,results29,go_sem,hby.q]) rfl ⟨⟨_,rfl,iH⟩,eN.o⟩
 have jM:=zh (Am.o rfl pF);have e1:(md==1)=false:=beq_eq_false_iff_ne.2 pF;clear HG Am;obtain ⟨x0,x1,x2,x3,x4,x5,x6,x7,x8,x9,gP,gQ,gK,gM⟩:=fG.o.q;have xf:=fG.o.f;go_wp2_with fail;refine (HW.o _ eV.o).mono ?_;rintro e w3 ⟨⟨s3,rfl,Ae⟩,hb3⟩;have i_:=zh (fG.o.bb hb3);have ng:=zh (fL.o.bb hb3);have f_:=zh (zA eV.o hb3);have lD:=zh (Ae.mono (show w.heap.size+2<=w1.heap.size by omega));clear x0 x1 x2 x3 x4 x5 x6 x7 x8 x9 gP gQ gK gM xf;clear hb3 Ae fG fL eV HW;obtain ⟨x0,x1,x2,x3,x4,x5,x6,x7,x8,x9,gP,gQ,gK,gM⟩:=i_.o.q;have xf:=i_.o.f;go_upto_region 6 with fail;change Code.wp _ _ _ _ (pts w3 w.heap.size (xN s3 L G));have jf:=zh (i_.o.map s3 L G);have lB:=zh (ng.o.eL (show w.heap.size+1≠w.heap.size by omega) (xN s3 L G));have gq:=zh (zC (B:=w.heap.size) (b:=w.heap.size) (ag _) (xN s3 L G) f_.o)
 have iP:=zh (lD.o.pts (show w.heap.size<w.heap.size+2 by omega) (xN s3 L G));generalize pts w3 w.heap.size (xN s3 L G)=w4 at *;clear x0 x1 x2 x3 x4 x5 x6 x7 x8 x9 gP gQ gK gM xf;clear i_ ng f_ lD;go_wp2_with fail
 go_loopw [24] (fun iv W=>∃ (i:Nat) (si:Sl),iv=.int .i64 (i:Int)/\i<=n/\Hid (eU W w.heap.size gn rv md z si ((ks.take i).foldl yX M0).live ((ks.take i).foldl yX M0).ew)/\Hid (fA W (w.heap.size+2) si ((ks.take i).foldl yX M0).st)/\Hid (eU W (w.heap.size+1) 0 0 0 0 Sl.nil 0 0)/\Hid (Below w.heap.size w W)) (fun iv _=>n-(intOf iv).toNat)
 case atStart=>exact ⟨0,s3,rfl,aq _,by rw[Je.o];exact jf,by rw[Je.o];exact iP,lB,gq⟩
 obtain ⟨i,si,rfl,hi,pM,AQ,lF,jI⟩:=hrel;clear jf lB gq
 by_cases hlt:i<n
 ·have i1:(i:Int)<(n:Int):=by omega
  obtain ⟨b,off,rfl,c0⟩:=mM.at (il.bb iw.o jI.o) hlt;have D4:=zh (jJ.o i);have rC:=zh (jY.o i hlt);generalize pW ks i=key at c0 rC;generalize (ks.take i).foldl yX M0=Mi at *;obtain ⟨df,dL,dG⟩:=Mi;dsimp only at *;obtain ⟨x4,x5,x6,x7,x8,x9,gP,gQ,gK,gM⟩:=pM.o.q;have HP:=zh (zBK si ⟨df,dL,dG⟩ key wr AQ.o.rd (fun j hj=>ak (D4.o j hj) (by omega)));generalize yX ⟨df,dL,dG⟩ key=M4 at *;obtain ⟨bf,bL,bG⟩:=M4;dsimp only at HP;go_wp2_with fail;refine (HP.o).mono ?_;rintro e w5 ⟨⟨s4,rfl,ho⟩,hb5⟩;have P3:=lF.o.lt;have jA:=zh (ho.mono (show w.heap.size+2<=wr.heap.size by omega));have gj:=zh (pM.o.bb hb5);have jN:=zh (lF.o.bb hb5);have gW:=zh (zA jI.o hb5);clear c0 pM lF jI AQ ho hb5 HP x4 x5 x6 x7 x8 x9 gP gQ gK gM;obtain ⟨x4,x5,x6,x7,x8,x9,gP,gQ,gK,gM⟩:=gj.o.q;have xf:=gj.o.f
  go_upto_region 10 with fail;change Code.wp _ _ _ _ (pts w5 w.heap.size (xN s4 bL bG));have jr:=zh (gj.o.map s4 bL bG);have Dq:=zh (jN.o.eL (show w.heap.size+1≠w.heap.size by omega) (xN s4 bL bG));have jH:=zh (zC (B:=w.heap.size) (b:=w.heap.size) (ag _) (xN s4 bL bG) gW.o);have o7:=zh (jA.o.pts (show w.heap.size<w.heap.size+2 by omega) (xN s4 bL bG));generalize pts w5 w.heap.size (xN s4 bL bG)=w6 at *;clear gj jN gW jA xf x4 x5 x6 x7 x8 x9 gP gQ gK gM;go_wp2_with fail
  go_roundw
  case rel =>
   refine ⟨i+1,s4,by go_num,by omega,?_,?_,Dq,jH⟩
   ·rw[rC.o];exact jr
   rw[rC.o];exact o7
  case measure=>simp[intOf];omega
 have hin:i=n:=by omega
 rw[hin,nN.o] at pM AQ;rw[hin];clear hin hi;generalize ks.foldl yX M0=gA at *;obtain ⟨af,aL,aG⟩:=gA;dsimp only at pM AQ;obtain ⟨x0,x1,x2,x3,x4,x5,x6,x7,x8,x9,gP,gQ,gK,gM⟩:=pM.o.q;obtain ⟨r0,r1,r2,r3,r4,r5,r6,r7,r8,r9,nL,mD,mR,pK⟩:=lF.o.q;have rf:=lF.o.f;go_wp2_with fail;change bodyPost _ _ _ _ _ (pts wr (w.heap.size+1) (zS gn rv md z si aL aG));have hby:=lF.o.all gn rv md z si aL aG;have eN:=zh (zC (B:=w.heap.size) (b:=(w.heap.size+1)) (by omega) (zS gn rv md z si aL aG) jI.o);have iH:=(AQ.o.pts (show w.heap.size+1<w.heap.size+2 by omega) (zS gn rv md z si aL aG)).mono (show w.heap.size<=w.heap.size+2 by omega);rw[jM.o];generalize pts wr (w.heap.size+1) (zS gn rv md z si aL aG)=V at *
 exact au (v:=.tuple #[ze gn rv md z si aL aG,.int .i64 0]) (by simp[results,results29,go_sem,hby.q]) rfl ⟨⟨_,rfl,iH⟩,eN.o⟩
end Go.Proofs.YtcgfilmmokmdjaaGreat
