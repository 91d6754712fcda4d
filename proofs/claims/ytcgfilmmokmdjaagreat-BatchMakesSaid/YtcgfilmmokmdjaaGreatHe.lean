import Derived.Test.YtcgfilmmokmdjaaGreatHd
import Derived.Test.YtcgfilmmokmdjaaGreatQAF
import Derived.Test.YtcgfilmmokmdjaaGreatQAM
set_option linter.all false
set_option maxRecDepth 100000
set_option maxHeartbeats 32000000
namespace Go.Proofs.YtcgfilmmokmdjaaGreat
open Go.RowKit
theorem Zq {l:List Int} {i:Nat} (h:i<l.length):l.take (i+1)=l.take i++[nR l i]:=by
 unfold nR;rw[cV,aB h,ax,aB h];rfl
theorem Zr (g:Gn) (s:Sl) (v:Value) (ks:List Int) (w:World) (h:fG w s g.m.st) (hs:∀ i,i<8→(g.m.st i).length≤9000) (hr:lT w v ks) (hkl:ks.length≤100000) :
  Calls Tryz.prog 46 #[zd g.num g.rev g.mode g.size s g.m.live g.m.d_,v] w (MV w s g.m.st (xA g ks)):=by
 obtain ⟨va,vc,rfl,rP,hv2,_⟩:=hr.shape 0;have D4:∀ i,i<8→(g.m.st i).length≤10000:=fun i hi=>ak (hs i hi) (by omega)
 have HV:=zh (fun W (hb:Below w.heap.size w W)=>uD g s W (h.below hb) D4);have iq:=zh hr;have EF:=zh h;have jf:=zh (show ∀ W,eU W w.heap.size s g.m.st Sl.nil ix.m.st from fun W=>eU.nil W _ _ _);have HG:=zh (show xA g ks=if wN g=true then (if g.mode=1 then (12,ix) else (0,{g with m:=ks.foldl yP g.m})) else (1,ix) from rfl);have jb:=zh (fun i=>wQ (ks.take i) g.m hs);have jG:=zh (show ∀ i,i<ks.length→(ks.take (i+1)).foldl yP g.m=yP ((ks.take i).foldl yP g.m) (nR ks i) from fun i hi=>by rw[Zq hi,dN];rfl);have mP:=zh (show ks.take ks.length=ks from cB);clear hr h hs D4;generalize hnn:ks.length=n at *;have Tv:=zh hnn;clear hnn;obtain ⟨gn,rv,md,z,⟨f,L,G⟩⟩:=g;generalize oK:(⟨gn,rv,md,z,⟨f,L,G⟩⟩:Gn)=g at *;have Tw:=zh oK;obtain ⟨W,hW,fM,hbr,fU⟩:=wv w gn rv md z s L G 113;have HX:=zh fM;have HR:=zh hbr
 have HB:=zh fU;clear fM hbr fU;generalize xA g ks=TG at *;generalize wN g=vb at *;subst oK;dsimp only at *;obtain ⟨M0,Aw⟩:∃ M0:Mp,(⟨f,L,G⟩:Mp)=M0:=⟨_,rfl⟩
 rw[Aw] at jb jG;have Gf:=zh (show (ks.take 0).foldl yP M0=⟨f,L,G⟩ from Aw.symm);have rU:=zh (show vb=true→md≠1→TG=(0,⟨gn,rv,md,z,ks.foldl yP M0⟩) from fun e1 e2=>by rw[HG.out,ah e1,ai e2,Aw]);clear Aw
 go_enter Tryz.func46,Tryz.ntmps46
 go_upto_region 1 with fail;change Code.wp _ _ _ _ ((w.alloc (.cells (zX gn rv md z s L G) 113)).alloc (.cells (zX 0 0 0 0 Sl.nil 0 0) 113));rw[hW];clear hW;obtain ⟨x0,x1,x2,x3,x4,x5,x6,x7,x8,x9,gq,gu,gj,gl⟩:=HX.out.q;go_wp2_with fail;refine (HV.out _ HB.out).mono ?_;rintro e w1 ⟨rfl,hb1⟩;have fh:=zh (HX.out.below hb1);have fq:=zh (HR.out.below hb1);have eP:=zh (zA HB.out hb1);have hlr:w.heap.size+1<W.heap.size:=HR.out.lt;have TS:=fq.out.lt;clear x0 x1 x2 x3 x4 x5 x6 x7 x8 x9 gq gu gj gl;clear hb1 HX HR HB HV
 cases vb
 ·
  have jt:=zh (show TG=(1,ix) by rw[HG.out];rfl);obtain ⟨r0,r1,r2,r3,r4,r5,r6,r7,r8,r9,mW,mC,nB,oJ⟩:=fq.out.q;have rf:=fq.out.f;go_wp2_with fail;change bodyPost _ _ _ _ _ (pts w1 (w.heap.size+1) (zQ 0 0 0 0 Sl.nil 0 0));have hby:=fq.out.all 0 0 0 0 Sl.nil 0 0;have eD:=zh (zD (B:=w.heap.size) (b:=(w.heap.size+1)) (by omega) (zQ 0 0 0 0 Sl.nil 0 0) eP.out);have gW:=jf.out (pts w1 (w.heap.size+1) (zQ 0 0 0 0 Sl.nil 0 0));rw[jt.out];generalize pts w1 (w.heap.size+1) (zQ 0 0 0 0 Sl.nil 0 0)=V at *;exact au (v:=.tuple #[zd 0 0 0 0 Sl.nil 0 0,.int .i64 1]) (by simp[results,Tryz.results46,go_sem,hby.q]) rfl ⟨⟨_,rfl,gW⟩,eD.out⟩
 by_cases nU:md=1
 ·
  have jt:=zh (show TG=(12,ix) by rw[HG.out,ah rfl,ah nU]);have e1:(md==1)=true:=by rw[nU];rfl
  clear HG rU;obtain ⟨x0,x1,x2,x3,x4,x5,x6,x7,x8,x9,gq,gu,gj,gl⟩:=fh.out.q;obtain ⟨r0,r1,r2,r3,r4,r5,r6,r7,r8,r9,mW,mC,nB,oJ⟩:=fq.out.q;have rf:=fq.out.f;go_wp2_with fail;change bodyPost _ _ _ _ _ (pts w1 (w.heap.size+1) (zQ 0 0 0 0 Sl.nil 0 0));have hby:=fq.out.all 0 0 0 0 Sl.nil 0 0;have eD:=zh (zD (B:=w.heap.size) (b:=(w.heap.size+1)) (by omega) (zQ 0 0 0 0 Sl.nil 0 0) eP.out);have gW:=jf.out (pts w1 (w.heap.size+1) (zQ 0 0 0 0 Sl.nil 0 0));rw[jt.out];generalize pts w1 (w.heap.size+1) (zQ 0 0 0 0 Sl.nil 0 0)=V at *;exact au (v:=.tuple #[zd 0 0 0 0 Sl.nil 0 0,.int .i64 12]) (by simp[results,Tryz.results46,go_sem,hby.q]) rfl ⟨⟨_,rfl,gW⟩,eD.out⟩
 have jt:=zh (rU.out rfl nU);have e1:(md==1)=false:=beq_eq_false_iff_ne.2 nU;clear HG rU;obtain ⟨x0,x1,x2,x3,x4,x5,x6,x7,x8,x9,gq,gu,gj,gl⟩:=fh.out.q;have xf:=fh.out.f;go_wp2_with fail
 go_loopw [6] (fun iv W=>∃ (i:Nat) (si:Sl),iv=.int .i64 (i:Int)∧i≤n∧Hid (eO W w.heap.size gn rv md z si ((ks.take i).foldl yP M0).live ((ks.take i).foldl yP M0).d_)∧Hid (eU W (w.heap.size+2) s f si ((ks.take i).foldl yP M0).st)∧Hid (eO W (w.heap.size+1) 0 0 0 0 Sl.nil 0 0)∧Hid (Below w.heap.size w W)) (fun iv _=>n-(intOf iv).toNat)
 case atStart=>exact ⟨0,s,rfl,aq _,by rw[Gf.out];exact fh,by rw[Gf.out];exact zh (eU.refl _ _ _ _),fq,eP⟩
 obtain ⟨i,si,rfl,hi,nX,sD,jF,k_⟩:=hrel;clear fh fq eP
 by_cases hlt:i<n
 ·
  have i1:(i:Int)<(n:Int):=by omega
  obtain ⟨b,off,rfl,c0⟩:=lT.at (iE.below iq.out k_.out) hlt;have AY:=zh (jb.out i);have pK:=zh (jG.out i hlt);generalize nR ks i=key at c0 pK;generalize (ks.take i).foldl yP M0=Mi at *;obtain ⟨df,dL,dG⟩:=Mi;dsimp only at *;obtain ⟨x4,x5,x6,x7,x8,x9,gq,gu,gj,gl⟩:=nX.out.q;have HP:=zh (YH si ⟨df,dL,dG⟩ key wr.drew (sD.out.rd EF.out k_.out|>.below (zi (aj _ _))) AY.out);go_upto_region 8 with fail;refine wp_region_still_tail 6 (by kernel_rfl) (by kernel_rfl) ?_;simp only[dK,List.take_zero,List.drop_succ_cons,List.drop_zero];change wpStill Tryz.prog _ (World.drew _) _ _ _
  repeat still_step
  refine wpStill_nil ?_;change wpList _ _ _ _ _ (World.drew _);generalize yP ⟨df,dL,dG⟩ key=M4 at *;obtain ⟨bf,bL,bG⟩:=M4;dsimp only at HP;go_wp2_with fail;refine (HP.out).mono ?_;rintro e w5 ⟨⟨s4,rfl,ho⟩,hb5⟩;replace hb5:=zA (zi (aj wr.heap.size wr)) hb5;have hsz:=hb5.size;have Nl:=jF.out.lt;have jN:=zh (sD.out.step ho hb5 (show w.heap.size+2≤wr.drew.heap.size from Nl));have fJ:=zh (nX.out.below hb5);have jx:=zh (jF.out.below hb5);have gH:=zh (zA k_.out hb5);clear c0 nX jF k_ sD ho hb5 HP x4 x5 x6 x7 x8 x9 gq gu gj gl;obtain ⟨x4,x5,x6,x7,x8,x9,gq,gu,gj,gl⟩:=fJ.out.q;have xf:=fJ.out.f;go_upto_region 7 with fail;change Code.wp _ _ _ _ (pts w5 w.heap.size (yu s4 bL bG));have iQ:=zh (fJ.out.map s4 bL bG);have BW:=zh (jx.out.eE (show w.heap.size+1≠w.heap.size by omega) (yu s4 bL bG))
  have iZ:=zh (zD (B:=w.heap.size) (b:=w.heap.size) (ag _) (yu s4 bL bG) gH.out);have nr:=zh (jN.out.pts (show w.heap.size<w.heap.size+2 by omega) (yu s4 bL bG));generalize pts w5 w.heap.size (yu s4 bL bG)=w6 at *;clear fJ jx gH jN xf x4 x5 x6 x7 x8 x9 gq gu gj gl;go_wp2_with fail
  go_roundw
  case rel =>
   refine ⟨i+1,s4,by go_num,by omega,?_,?_,BW,iZ⟩
   ·
    rw[pK.out];exact iQ
   rw[pK.out];exact nr
  case measure=>simp[intOf];omega
 have hin:i=n:=by omega
 rw[hin,mP.out] at nX sD;rw[hin];clear hin hi;generalize ks.foldl yP M0=gA at *;obtain ⟨af,aL,aG⟩:=gA;dsimp only at nX sD;obtain ⟨x0,x1,x2,x3,x4,x5,x6,x7,x8,x9,gq,gu,gj,gl⟩:=nX.out.q;obtain ⟨r0,r1,r2,r3,r4,r5,r6,r7,r8,r9,mW,mC,nB,oJ⟩:=jF.out.q;have rf:=jF.out.f;go_wp2_with fail;change bodyPost _ _ _ _ _ (pts wr (w.heap.size+1) (zQ gn rv md z si aL aG));have hby:=jF.out.all gn rv md z si aL aG;have eD:=zh (zD (B:=w.heap.size) (b:=(w.heap.size+1)) (by omega) (zQ gn rv md z si aL aG) k_.out);have gW:=(sD.out.pts (show w.heap.size+1<w.heap.size+2 by omega) (zQ gn rv md z si aL aG)).mono (show w.heap.size≤w.heap.size+2 by omega);rw[jt.out];generalize pts wr (w.heap.size+1) (zQ gn rv md z si aL aG)=V at *
 exact au (v:=.tuple #[zd gn rv md z si aL aG,.int .i64 0]) (by simp[results,Tryz.results46,go_sem,hby.q]) rfl ⟨⟨_,rfl,gW⟩,eD.out⟩
theorem zJe (g:Gn) (s:Sl) (v:Value) (ks:List Int) (w:World) (h:fG w s g.m.st) (hs:∀ i,i<8→(g.m.st i).length≤9000) (hr:lT w v ks) (hkl:ks.length≤100000) :
  Calls Tryz.prog 29 #[zd g.num g.rev g.mode g.size s g.m.live g.m.d_,v] w (KZ w (xA g ks)):=by
 obtain ⟨va,vc,rfl,rP,hv2,_⟩:=hr.shape 0;have D4:∀ i,i<8→(g.m.st i).length≤10000:=fun i hi=>ak (hs i hi) (by omega)
 have HV:=zh (fun W (hb:Below w.heap.size w W)=>vu g s W (h.below hb) D4);have iq:=zh hr;have EF:=zh h;have jf:=zh (show ∀ W,eZ W w.heap.size Sl.nil ix.m.st from fun W=>eZ.nil W _);have HW:=zh (fun W (hb:Below w.heap.size w W)=>vp s g.m 0 W (h.below hb) D4);rw[uB] at HW;have HG:=zh (show xA g ks=if wN g=true then (if g.mode=1 then (12,ix) else (0,{g with m:=ks.foldl yP g.m})) else (1,ix) from rfl);have jb:=zh (fun i=>wQ (ks.take i) g.m hs);have jG:=zh (show ∀ i,i<ks.length→(ks.take (i+1)).foldl yP g.m=yP ((ks.take i).foldl yP g.m) (nR ks i) from fun i hi=>by rw[Zq hi,dN];rfl);have mP:=zh (show ks.take ks.length=ks from cB);clear hr h hs D4;generalize hnn:ks.length=n at *;have Tv:=zh hnn;clear hnn;obtain ⟨gn,rv,md,z,⟨f,L,G⟩⟩:=g;generalize oK:(⟨gn,rv,md,z,⟨f,L,G⟩⟩:Gn)=g at *;have Tw:=zh oK
 obtain ⟨W,hW,fM,hbr,fU⟩:=wv w gn rv md z s L G 38;have HX:=zh fM;have HR:=zh hbr;have HB:=zh fU;clear fM hbr fU;generalize xA g ks=TG at *;generalize wN g=vb at *;subst oK;dsimp only at *;obtain ⟨M0,Aw⟩:∃ M0:Mp,(⟨f,L,G⟩:Mp)=M0:=⟨_,rfl⟩
 rw[Aw] at jb jG;have Gf:=zh (show (ks.take 0).foldl yP M0=⟨f,L,G⟩ from Aw.symm);have rU:=zh (show vb=true→md≠1→TG=(0,⟨gn,rv,md,z,ks.foldl yP M0⟩) from fun e1 e2=>by rw[HG.out,ah e1,ai e2,Aw]);clear Aw
 go_enter Tryz.func29,Tryz.ntmps29
 go_upto_region 1 with fail;change Code.wp _ _ _ _ ((w.alloc (.cells (zX gn rv md z s L G) 38)).alloc (.cells (zX 0 0 0 0 Sl.nil 0 0) 38));rw[hW];clear hW;obtain ⟨x0,x1,x2,x3,x4,x5,x6,x7,x8,x9,gq,gu,gj,gl⟩:=HX.out.q;go_wp2_with fail;refine (HV.out _ HB.out).mono ?_;rintro e w1 ⟨rfl,hb1⟩;have fh:=zh (HX.out.below hb1);have fq:=zh (HR.out.below hb1);have eP:=zh (zA HB.out hb1);have hlr:w.heap.size+1<W.heap.size:=HR.out.lt;have TS:=fq.out.lt;clear x0 x1 x2 x3 x4 x5 x6 x7 x8 x9 gq gu gj gl;clear hb1 HX HR HB HV
 cases vb
 ·
  have jt:=zh (show TG=(1,ix) by rw[HG.out];rfl);obtain ⟨r0,r1,r2,r3,r4,r5,r6,r7,r8,r9,mW,mC,nB,oJ⟩:=fq.out.q;have rf:=fq.out.f;go_wp2_with fail;change bodyPost _ _ _ _ _ (pts w1 (w.heap.size+1) (zQ 0 0 0 0 Sl.nil 0 0));have hby:=fq.out.all 0 0 0 0 Sl.nil 0 0;have eD:=zh (zD (B:=w.heap.size) (b:=(w.heap.size+1)) (by omega) (zQ 0 0 0 0 Sl.nil 0 0) eP.out);have gW:=jf.out (pts w1 (w.heap.size+1) (zQ 0 0 0 0 Sl.nil 0 0));rw[jt.out];generalize pts w1 (w.heap.size+1) (zQ 0 0 0 0 Sl.nil 0 0)=V at *;exact au (v:=.tuple #[zd 0 0 0 0 Sl.nil 0 0,.int .i64 1]) (by simp[results,Tryz.results29,go_sem,hby.q]) rfl ⟨⟨_,rfl,gW⟩,eD.out⟩
 by_cases nU:md=1
 ·
  have jt:=zh (show TG=(12,ix) by rw[HG.out,ah rfl,ah nU]);have e1:(md==1)=true:=by rw[nU];rfl
  clear HG rU;obtain ⟨x0,x1,x2,x3,x4,x5,x6,x7,x8,x9,gq,gu,gj,gl⟩:=fh.out.q;obtain ⟨r0,r1,r2,r3,r4,r5,r6,r7,r8,r9,mW,mC,nB,oJ⟩:=fq.out.q;have rf:=fq.out.f;go_wp2_with fail;change bodyPost _ _ _ _ _ (pts w1 (w.heap.size+1) (zQ 0 0 0 0 Sl.nil 0 0));have hby:=fq.out.all 0 0 0 0 Sl.nil 0 0;have eD:=zh (zD (B:=w.heap.size) (b:=(w.heap.size+1)) (by omega) (zQ 0 0 0 0 Sl.nil 0 0) eP.out);have gW:=jf.out (pts w1 (w.heap.size+1) (zQ 0 0 0 0 Sl.nil 0 0));rw[jt.out];generalize pts w1 (w.heap.size+1) (zQ 0 0 0 0 Sl.nil 0 0)=V at *;exact au (v:=.tuple #[zd 0 0 0 0 Sl.nil 0 0,.int .i64 12]) (by simp[results,Tryz.results29,go_sem,hby.q]) rfl ⟨⟨_,rfl,gW⟩,eD.out⟩
 have jt:=zh (rU.out rfl nU);have e1:(md==1)=false:=beq_eq_false_iff_ne.2 nU;clear HG rU;obtain ⟨x0,x1,x2,x3,x4,x5,x6,x7,x8,x9,gq,gu,gj,gl⟩:=fh.out.q;have xf:=fh.out.f;go_wp2_with fail;refine (HW.out _ eP.out).mono ?_;rintro e w3 ⟨⟨s3,rfl,rL⟩,hb3⟩;have iw:=zh (fh.out.below hb3);have nh:=zh (fq.out.below hb3);have gy:=zh (zA eP.out hb3);have mg:=zh (rL.mono (show w.heap.size+2≤w1.heap.size by omega));clear x0 x1 x2 x3 x4 x5 x6 x7 x8 x9 gq gu gj gl xf;clear hb3 rL fh fq eP HW;obtain ⟨x0,x1,x2,x3,x4,x5,x6,x7,x8,x9,gq,gu,gj,gl⟩:=iw.out.q;have xf:=iw.out.f;go_upto_region 6 with fail;change Code.wp _ _ _ _ (pts w3 w.heap.size (yu s3 L G));have jc:=zh (iw.out.map s3 L G);have mN:=zh (nh.out.eE (show w.heap.size+1≠w.heap.size by omega) (yu s3 L G));have gD:=zh (zD (B:=w.heap.size) (b:=w.heap.size) (ag _) (yu s3 L G) gy.out)
 have jM:=zh (mg.out.pts (show w.heap.size<w.heap.size+2 by omega) (yu s3 L G));generalize pts w3 w.heap.size (yu s3 L G)=w4 at *;clear x0 x1 x2 x3 x4 x5 x6 x7 x8 x9 gq gu gj gl xf;clear iw nh gy mg;go_wp2_with fail
 go_loopw [24] (fun iv W=>∃ (i:Nat) (si:Sl),iv=.int .i64 (i:Int)∧i≤n∧Hid (eO W w.heap.size gn rv md z si ((ks.take i).foldl yP M0).live ((ks.take i).foldl yP M0).d_)∧Hid (eZ W (w.heap.size+2) si ((ks.take i).foldl yP M0).st)∧Hid (eO W (w.heap.size+1) 0 0 0 0 Sl.nil 0 0)∧Hid (Below w.heap.size w W)) (fun iv _=>n-(intOf iv).toNat)
 case atStart=>exact ⟨0,s3,rfl,aq _,by rw[Gf.out];exact jc,by rw[Gf.out];exact jM,mN,gD⟩
 obtain ⟨i,si,rfl,hi,nX,sD,jF,k_⟩:=hrel;clear jc mN gD
 by_cases hlt:i<n
 ·
  have i1:(i:Int)<(n:Int):=by omega
  obtain ⟨b,off,rfl,c0⟩:=lT.at (iE.below iq.out k_.out) hlt;have AY:=zh (jb.out i);have pK:=zh (jG.out i hlt);generalize nR ks i=key at c0 pK;generalize (ks.take i).foldl yP M0=Mi at *;obtain ⟨df,dL,dG⟩:=Mi;dsimp only at *;obtain ⟨x4,x5,x6,x7,x8,x9,gq,gu,gj,gl⟩:=nX.out.q;have HP:=zh (X0 si ⟨df,dL,dG⟩ key wr sD.out.rd (fun j hj=>ak (AY.out j hj) (by omega)));generalize yP ⟨df,dL,dG⟩ key=M4 at *;obtain ⟨bf,bL,bG⟩:=M4;dsimp only at HP;go_wp2_with fail;refine (HP.out).mono ?_;rintro e w5 ⟨⟨s4,rfl,ho⟩,hb5⟩;have Nl:=jF.out.lt;have jN:=zh (ho.mono (show w.heap.size+2≤wr.heap.size by omega));have fJ:=zh (nX.out.below hb5);have jx:=zh (jF.out.below hb5);have gH:=zh (zA k_.out hb5);clear c0 nX jF k_ sD ho hb5 HP x4 x5 x6 x7 x8 x9 gq gu gj gl;obtain ⟨x4,x5,x6,x7,x8,x9,gq,gu,gj,gl⟩:=fJ.out.q;have xf:=fJ.out.f
  go_upto_region 10 with fail;change Code.wp _ _ _ _ (pts w5 w.heap.size (yu s4 bL bG));have iQ:=zh (fJ.out.map s4 bL bG);have BW:=zh (jx.out.eE (show w.heap.size+1≠w.heap.size by omega) (yu s4 bL bG));have iZ:=zh (zD (B:=w.heap.size) (b:=w.heap.size) (ag _) (yu s4 bL bG) gH.out);have nr:=zh (jN.out.pts (show w.heap.size<w.heap.size+2 by omega) (yu s4 bL bG));generalize pts w5 w.heap.size (yu s4 bL bG)=w6 at *;clear fJ jx gH jN xf x4 x5 x6 x7 x8 x9 gq gu gj gl;go_wp2_with fail
  go_roundw
  case rel =>
   refine ⟨i+1,s4,by go_num,by omega,?_,?_,BW,iZ⟩
   ·
    rw[pK.out];exact iQ
   rw[pK.out];exact nr
  case measure=>simp[intOf];omega
 have hin:i=n:=by omega
 rw[hin,mP.out] at nX sD;rw[hin];clear hin hi;generalize ks.foldl yP M0=gA at *;obtain ⟨af,aL,aG⟩:=gA;dsimp only at nX sD;obtain ⟨x0,x1,x2,x3,x4,x5,x6,x7,x8,x9,gq,gu,gj,gl⟩:=nX.out.q;obtain ⟨r0,r1,r2,r3,r4,r5,r6,r7,r8,r9,mW,mC,nB,oJ⟩:=jF.out.q;have rf:=jF.out.f;go_wp2_with fail;change bodyPost _ _ _ _ _ (pts wr (w.heap.size+1) (zQ gn rv md z si aL aG));have hby:=jF.out.all gn rv md z si aL aG;have eD:=zh (zD (B:=w.heap.size) (b:=(w.heap.size+1)) (by omega) (zQ gn rv md z si aL aG) k_.out);have gW:=(sD.out.pts (show w.heap.size+1<w.heap.size+2 by omega) (zQ gn rv md z si aL aG)).mono (show w.heap.size≤w.heap.size+2 by omega);rw[jt.out];generalize pts wr (w.heap.size+1) (zQ gn rv md z si aL aG)=V at *
 exact au (v:=.tuple #[zd gn rv md z si aL aG,.int .i64 0]) (by simp[results,Tryz.results29,go_sem,hby.q]) rfl ⟨⟨_,rfl,gW⟩,eD.out⟩
end Go.Proofs.YtcgfilmmokmdjaaGreat
