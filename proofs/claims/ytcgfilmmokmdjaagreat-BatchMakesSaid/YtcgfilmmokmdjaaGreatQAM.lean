import Derived.Test.YtcgfilmmokmdjaaGreatQAL
import Derived.Deep.MidRow
import Derived.Test.YtcgfilmmokmdjaaGreatQAK
import Derived.OneCell
import Derived.Test.YtcgfilmmokmdjaaGreatQAB
set_option linter.all false
set_option maxRecDepth 100000
set_option maxHeartbeats 32000000
namespace Go.Proofs.YtcgfilmmokmdjaaGreat
open Go.RowKit
theorem vh (w:World) (i l:Int) (r:Bool) (a:Option Addr) (n c:Nat) (y:GP) (t u:TypeId):∃ W,((w.alloc (.cells (zK i l r a n c) t)).alloc (.cells (zX y.1.num y.1.rev y.1.mode y.1.size y.2 y.1.m.live y.1.m.d_) u)).alloc (.cells (zK 0 0 false none 0 0) t)=W∧eW W w.heap.size i l r a n c∧eO W (w.heap.size+1) y.1.num y.1.rev y.1.mode y.1.size y.2 y.1.m.live y.1.m.d_∧eW W (w.heap.size+2) 0 0 false none 0 0∧Below w.heap.size w W:=by
 have h1:=eW.new w i l r a n c t;have b1:=zM w i l r a n c t;generalize hw1:w.alloc (.cells (zK i l r a n c) t)=w1 at *;have e1:w1.heap.size=w.heap.size+1:=by rw[← hw1,cO]
 have h2:=eO.new w1 y.1.num y.1.rev y.1.mode y.1.size y.2 y.1.m.live y.1.m.d_ u;have b2:=zZ w1 y.1.num y.1.rev y.1.mode y.1.size y.2 y.1.m.live y.1.m.d_ u;generalize hw2:w1.alloc (.cells (zX y.1.num y.1.rev y.1.mode y.1.size y.2 y.1.m.live y.1.m.d_) u)=w2 at *;have e2:w2.heap.size=w.heap.size+2:=by rw[← hw2,cO,e1]
 have h3:=eW.new w2 0 0 false none 0 0 t;have b3:=zM w2 0 0 false none 0 0 t;rw[e1] at h2;rw[e2] at h3;exact ⟨_,rfl,(h1.below b2).below b3,h2.below b3,h3,zA (zA b1 b2) b3⟩
theorem uw (b:Nat):∀ (vs:List Value) (o:Nat) (W:World),W.setCells b o vs=pts W b (Nf o vs)
 |[],_,_=>rfl
 |v::r,o,W=>uw b r (o+1) _
theorem oI.there {W:World} {g o:Nat} {p:GP} (h:oI W g o p) (hf:∀ i,W.frozen? ⟨g,i,none⟩=false):W.there g o 14:=fun j hj=>by
 refine ⟨?_,hf _⟩;rcases (show j=0∨j=1∨j=2∨j=3∨j=4∨j=5∨j=6∨j=7∨j=8∨j=9∨j=10∨j=11∨j=12∨j=13 by omega) with e|e|e|e|e|e|e|e|e|e|e|e|e|e<;>subst e
 ·
  rw[bB,h.n0];rfl
 ·
  rw[h.n1];rfl
 ·
  rw[h.n2];rfl
 ·
  rw[h.n3];rfl
 ·
  rw[h.c0];rfl
 ·
  rw[h.c1];rfl
 ·
  rw[h.c2];rfl
 ·
  rw[h.c3];rfl
 ·
  rw[h.c4];rfl
 ·
  rw[h.c5];rfl
 ·
  rw[h.c6];rfl
 ·
  rw[h.c7];rfl
 ·
  rw[h.cl];rfl
 rw[h.cg];rfl
theorem Zi:(Tryz.prog.info? 113).map (·.size)=some 14:=by kernel_rfl
theorem Zj:(Tryz.prog.info? 38).map (·.size)=some 14:=by kernel_rfl
theorem ki (num rev md sz:Int) (s:Sl) (LV GA:Int):(zX num rev md sz s LV GA).all (·.oneCell')=true:=all_oneCell_toArray (P5 (⟨num,rev,md,sz,⟨fun _=>[],LV,GA⟩⟩,s))
theorem kU (W:World) (g o:Nat) (num rev md sz:Int) (s:Sl) (LV GA:Int):W.setCells g o (zX num rev md sz s LV GA).toList=pts W g (Bk o num rev md sz s LV GA):=uw g _ o W
theorem zKx (i l:Int) (r:Bool) (a:Option Addr) (n c:Nat) (L:List GP) (w:World) (h:fD w (.slice a n c) L) (hs:∀ p∈L,∀ j,j<8→(p.1.m.st j).length≤10000) (y:GP) (hy:fG w y.2 y.1.m.st) (pj:∀ j,j<8→(y.1.m.st j).length≤10000) (hv:zY ⟨i,l,r,ep L⟩=false) :
  Calls Tryz.prog 44 #[zO i l r a n c,zd y.1.num y.1.rev y.1.mode y.1.size y.2 y.1.m.live y.1.m.d_] w (nD w (yV ⟨i,l,r,ep L⟩ y.1)):=by
 have fQ:=zh (fun W (hb:Below w.heap.size w W)=>zz i l r a n c L W (h.below hb) hs);have HC:=zh (show yV ⟨i,l,r,ep L⟩ y.1=(xh,1) by unfold yV;rw[hv];rfl);rw[hv] at fQ;clear h hs hv hy pj
 go_enter Tryz.func44,Tryz.ntmps44
 go_upto_region 1 with fail;change Code.wp _ _ _ _ (((w.alloc (.cells (zK i l r a n c) 31)).alloc (.cells (zX y.1.num y.1.rev y.1.mode y.1.size y.2 y.1.m.live y.1.m.d_) 113)).alloc (.cells (zK 0 0 false none 0 0) 31));obtain ⟨W,hW,fM,hbg,hbr,fU⟩:=vh w i l r a n c y 31 113;rw[hW];have HX:=zh fM;have HG:=zh hbg;have HR:=zh hbr;have HB:=zh fU;clear hW fM hbg hbr fU;obtain ⟨k0,k1,k2,k3⟩:=HX.out.q;go_wp2_with fail;refine (fQ.out _ HB.out).mono ?_;rintro e w1 ⟨rfl,hb⟩;replace HX:=zh (HX.out.below hb);replace HR:=zh (HR.out.below hb);replace HB:=zh (zA HB.out hb);clear hb;clear k0 k1 k2 k3;obtain ⟨z0,z1,z2,z3⟩:=HR.out.q;have zf:=HR.out.f;go_wp2_with fail;change bodyPost _ _ _ _ _ (pts w1 (w.heap.size+2) (zR 0 0 false none 0 0));have hby:=HR.out.all 0 0 false none 0 0
 have eD:=zh (zD (B:=w.heap.size) (b:=(w.heap.size+2)) (by omega) (zR 0 0 false none 0 0) HB.out);generalize pts w1 (w.heap.size+2) (zR 0 0 false none 0 0)=V at *;exact au (v:=.tuple #[zO 0 0 false none 0 0,.int .i64 1]) (by simp[results,Tryz.results44,go_sem,hby.c0,hby.c1,hby.c2,hby.c3]) rfl (by rw[HC.out];exact nD.no eD.out)
theorem zIm (i l:Int) (r:Bool) (a:Option Addr) (n c:Nat) (L:List GP) (w:World) (h:fD w (.slice a n c) L) (hs:∀ p∈L,∀ j,j<8→(p.1.m.st j).length≤10000) (y:GP) (hy:fG w y.2 y.1.m.st) (pj:∀ j,j<8→(y.1.m.st j).length≤10000) (hv:zY ⟨i,l,r,ep L⟩=true) :
  Calls Tryz.prog 44 #[zO i l r a n c,zd y.1.num y.1.rev y.1.mode y.1.size y.2 y.1.m.live y.1.m.d_] w (nD w (yV ⟨i,l,r,ep L⟩ y.1)):=by
 have fQ:=zh (fun W (hb:Below w.heap.size w W)=>zz i l r a n c L W (h.below hb) hs);have hV:=(zW _).1 hv;have fO:L.length=n:=by
  obtain ⟨_,_,e,_⟩:=h.shape;injection e with _ e _;exact e.symm
 have hl:(ep L).length=n:=by rw[zn,fO]
 have hn:1≤n∧n≤8:=by have:=hV.len;simp only[hl] at this;exact this
 have HC:=zh (show yV ⟨i,l,r,ep L⟩ y.1=(if ug L y.1.num n=true then (if zY ⟨i,l,r,ep (vQ L y)⟩=true then (⟨i,l,r,ep (vQ L y)⟩,0) else (xh,1)) else (xh,6)) by
  unfold yV;rw[ah hv,TL L y.1.num n fO.symm,Zb])
 rw[hv] at fQ
 have oZ:=zh (show ∀ W,Below w.heap.size w W→∀ p∈vQ L y,fG W p.2 p.1.m.st from fun W hb p hp=>by
  rcases tZ hp with hp|rfl
  ·
   exact (h.m p hp).below hb
  exact hy.below hb)
 have sr:=zh (show ∀ p∈vQ L y,∀ j,j<8→(p.1.m.st j).length≤10000 from fun p hp=>by
  rcases tZ hp with hp|rfl
  ·
   exact hs p hp
  exact pj)
 have iW:=zh (show n=(vQ L y).length by rw[uY,fO]);have Ei:=zh (Zc L y);have FR:=zh (Zd L y n fO.symm);have Bl:=zh (fun k=>show n=(wk L y k).length by rw[TI,fO]);have Ni:=zh (fun k (hk:k<n)=>TJ (L:=L) (k:=k) (by omega) y);have Nj:=zh (fun k (hk:k<n)=>show ((pat L k).1.num=y.1.num→wk L y (k+1)=(wk L y k).set k y)∧((pat L k).1.num≠y.1.num→wk L y (k+1)=wk L y k) from ⟨fun e=>by rw[TK (by omega),ah e],fun e=>Ze (by omega) y e⟩);have IE:=zh (fun k (hk:k<n)=>Zf (L:=L) (k:=k) (by omega) y.1.num);have Nk:=zh (show ug L y.1.num 0=false from rfl)
 have jO:=zh (fun W (hb:Below w.heap.size w W)=>show Rd W 14 (.slice a n c) n (L.flatMap iL) from by
  have h1:=(iN.below h.r hb).2
  rwa [fO] at h1)
 have jH:=zh (P6 L);clear h hs hv hV fO hl hy pj;obtain ⟨⟨num,rev,md,sz,⟨f,LV,GA⟩⟩,s⟩:=y;dsimp only at *
 go_enter Tryz.func44,Tryz.ntmps44
 go_upto_region 1 with fail;change Code.wp _ _ _ _ (((w.alloc (.cells (zK i l r a n c) 31)).alloc (.cells (zX num rev md sz s LV GA) 113)).alloc (.cells (zK 0 0 false none 0 0) 31));obtain ⟨W,hW,fM,hbg,hbr,fU⟩:=vh w i l r a n c (⟨num,rev,md,sz,⟨f,LV,GA⟩⟩,s) 31 113;rw[hW];have HX:=zh fM;have HG:=zh hbg;have HR:=zh hbr;have HB:=zh fU;clear hW fM hbg hbr fU;have hB0:w.heap.size+3≤W.heap.size:=by have:=HR.out.lt;omega
 dsimp only at HG;obtain ⟨k0,k1,k2,k3⟩:=HX.out.q;go_wp2_with fail;refine (fQ.out _ HB.out).mono ?_;rintro e w1 ⟨rfl,hb⟩;replace HX:=zh (HX.out.below hb);replace HG:=zh (HG.out.below hb);replace HR:=zh (HR.out.below hb);replace HB:=zh (zA HB.out hb);have hB1:=ak hB0 hb.size;clear hb fQ;clear k0 k1 k2 k3;have k3:=HX.out.c3;obtain ⟨w2,hw2⟩:∃ w2,w1.alloc (.cells #[] 113)=w2:=⟨_,rfl⟩
 have CH:=cI (e:=113) (size:=14) w1 #[] 0 (ag w1.heap.size) (by decide) rfl;have ew:Below w1.heap.size w1 w2:=hw2▸(aj w1.heap.size w1).alloc (ag _) (.cells #[] 113);rw[hw2] at CH;have EJ:=zA HB.out ew;replace k3:=(HX.out.below ew).c3;go_wp2_with (at_builtin;go_must (refine zP rfl (.tmp 12) (.tmp 14) 29 rfl Ng w1.heap.size rfl CH rfl (jO.out w2 EJ) jH.out (by unfold maxLen;omega) (by omega) ew.size ?_;intro v3 w3 ei eL hv3;clear hv3;rw[aI,bQ] at ei;obtain ⟨ra,rc,rfl,_⟩:=zH ei;have hb3:=zL ew CH ew.size eL;replace k3:=(HX.out.below hb3).c3;have kf:=(HX.out.below hb3).f));obtain ⟨g,rfl,hgB,rW⟩:=uV ei (by omega);have jc:=zh (show eW (pts w3 w.heap.size [(3,.slice (some ⟨g,0,none⟩) n rc)]) w.heap.size i l r (some ⟨g,0,none⟩) n rc from (HX.out.below hb3).EH (some ⟨g,0,none⟩) n rc)
 have DX:=zh ((HG.out.below hb3).eE (c:=w.heap.size) (by omega) [(3,.slice (some ⟨g,0,none⟩) n rc)]);have mN:=zh ((HR.out.below hb3).eE (d:=w.heap.size) (by omega) [(3,.slice (some ⟨g,0,none⟩) n rc)]);have gD:=zh (zD (B:=w.heap.size) (b:=w.heap.size) (ag _) [(3,.slice (some ⟨g,0,none⟩) n rc)] (zA HB.out hb3));have jM:=zh (wI (b:=w.heap.size) (by omega) ei [(3,.slice (some ⟨g,0,none⟩) n rc)]);have hg9:w.heap.size+3≤g:=by omega
 clear HX HG HR HB hb3 ei eL CH ew EJ jO jH k3 kf hw2 rW;change Code.wp _ _ _ _ (pts w3 w.heap.size [(3,.slice (some ⟨g,0,none⟩) n rc)]);generalize (pts w3 w.heap.size [(3,.slice (some ⟨g,0,none⟩) n rc)])=w4 at *;rw[← Ei.out] at jM
 go_loopw [6,7] (fun fv iv V=>∃ (k:Nat) (m:Bool),iv=.int .i64 (k:Int)∧fv=.bool m∧k≤n∧Hid (m=ug L num k)∧Hid (V.ownsRow w1.heap.size 113 14 (.slice (some ⟨g,0,none⟩) n rc) n ((wk L (((⟨num,rev,md,sz,⟨f,LV,GA⟩⟩:Gn),s):GP) k).flatMap iL))∧Hid (eW V w.heap.size i l r (some ⟨g,0,none⟩) n rc)∧Hid (eO V (w.heap.size+1) num rev md sz s LV GA)∧Hid (eW V (w.heap.size+2) 0 0 false none 0 0)∧Hid (Below w.heap.size w V)) (fun _ iv _=>n-(intOf iv).toNat)
 case atStart=>exact ⟨0,false,rfl,rfl,aq _,zh Nk.out.symm,jM,jc,DX,mN,gD⟩
 obtain ⟨k,m,rfl,rfl,hk,Hm,HO,HX,HG,HR,HB⟩:=hrel;clear jc DX mN gD jM;have k3:=HX.out.c3
 by_cases hlt:k<n
 ·
  have i1:(k:Int)<(n:Int):=by omega
  have hat:=P4 HO.out (Bl.out k) hlt;rw[Ni.out k hlt] at hat;have q0:=HG.out.n0;have Dl:=Nj.out k hlt;have GK:=IE.out k hlt;have Jj:=zh (show k<(wk L (((⟨num,rev,md,sz,⟨f,LV,GA⟩⟩:Gn),s):GP) k).length by rw[← Bl.out k];exact hlt)
  by_cases gT:(pat L k).1.num=num
  ·
   have C8:=zh (show true=ug L num (k+1) by rw[GK,aC gT,Bool.or_true]);have K8:=zh (Dl.1 gT);clear Dl GK;have c0:=hat.n0;rw[gT] at c0;go_upto_region 8 with fail;replace k3:=zB k3;replace c0:=zB c0;replace q0:=zB q0;refine zC (by kernel_rfl) (by kernel_rfl) ?_
   repeat (go_big_quiet_step (fail))
   refine aA ?_;intro _ hw';obtain ⟨q,hw'⟩:=hw';subst hw';have hat:=hat.below q.h;replace HO:=zh (zG HO.out q.h);replace HX:=zh (HX.out.below q.h);replace HG:=zh (HG.out.below q.h);replace HR:=zh (HR.out.below q.h);replace HB:=zh (zA HB.out q.h);clear k3 c0 q0;generalize q.w'=v0 at *;clear q;have hst:=t6 HO.out k Jj.out (((⟨num,rev,md,sz,⟨f,LV,GA⟩⟩:Gn),s):GP);rw[← K8.out] at hst;have jQ:=zh hst.1;have sB:=zh (HG.out.mX hst.2 (by omega));have fh:=zh (HX.out.mX hst.2 (by omega));have fq:=zh (HR.out.mX hst.2 (by omega));have eP:=zh (zD (B:=w.heap.size) (b:=g) (by omega) (Bk (k*14) num rev md sz s LV GA) HB.out);have hfr:=xw HO.out;have k3:=HX.out.c3;clear hst;have GM:=zh (hat.there hfr);clear hat hfr;obtain ⟨u0,u1,u2,u3,u4,u5,u6,u7,u8,u9,u10,u11,u12,u13⟩:=HG.out.q
   go_wp2_with ((with_reducible refine wpList_store_mid ?_ 113 (.tmp 37) (.tmp 36) ?_ g (k*14) (zX num rev md sz s LV GA) ?_ ?_ ?_ ?_ ?_ ?_);rfl;rfl;rfl;rfl;exact GM.out;exact Zi;exact ki _ _ _ _ _ _ _;rw[kU]);exact ⟨⟨k+1,true,by go_num,rfl,by omega,C8,jQ,fh,sB,fq,eP⟩,by simp[intOf];omega⟩
  have C8:=zh (show m=ug L num (k+1) by rw[GK,aD gT,Bool.or_false];exact Hm.out);have jQ:=HO;rw[← Dl.2 gT] at jQ;have c0:=hat.n0;have hne:((pat L k).1.num==num)=false:=by simp[gT]
  clear hat Dl GK;generalize (pat L k).1.num=pn at *;go_upto_region 8 with fail;replace k3:=zB k3;replace c0:=zB c0;replace q0:=zB q0;refine zC (by kernel_rfl) (by kernel_rfl) ?_
  repeat (go_big_quiet_step (fail))
  refine aA ?_;intro _ hw';obtain ⟨q,hw'⟩:=hw';subst hw';replace jQ:=zh (zG jQ.out q.h);replace HX:=zh (HX.out.below q.h);replace HG:=zh (HG.out.below q.h);replace HR:=zh (HR.out.below q.h);replace HB:=zh (zA HB.out q.h);clear k3 c0 q0;generalize q.w'=v0 at *;clear q;go_wp2_with fail;exact ⟨⟨k+1,m,by go_num,rfl,by omega,C8,jQ,HX,HG,HR,HB⟩,by simp[intOf];omega⟩
 have i1:¬ (k:Int)<(n:Int):=by omega
 obtain rfl:k=n:=by omega
 rw[FR.out] at HO;have hm:=Hm.out;rw[← hm] at HC;clear hm Hm Nj IE Ni Bl Ei Nk hlt hk FR
 cases m
 ·
  have A3:=zh (HC.out.trans (ai (by decide)));clear HC;obtain ⟨z0,z1,z2,z3⟩:=HR.out.q;have zf:=HR.out.f;go_wp2_with fail;change bodyPost _ _ _ _ _ (pts wr (w.heap.size+2) (zR 0 0 false none 0 0));have hby:=HR.out.all 0 0 false none 0 0;have eD:=zh (zD (B:=w.heap.size) (b:=(w.heap.size+2)) (by omega) (zR 0 0 false none 0 0) HB.out);generalize pts wr (w.heap.size+2) (zR 0 0 false none 0 0)=V at *;exact au (v:=.tuple #[zO 0 0 false none 0 0,.int .i64 6]) (by simp[results,Tryz.results44,go_sem,hby.c0,hby.c1,hby.c2,hby.c3]) rfl (by rw[A3.out];exact nD.no eD.out)
 have A3:=HC.out.trans (ah rfl);have Bi:=zh (qQ HO.out iW.out (oZ.out wr HB.out));have Au:=zh (zz i l r (some ⟨g,0,none⟩) k rc (vQ L (((⟨num,rev,md,sz,⟨f,LV,GA⟩⟩:Gn),s):GP)) wr Bi.out sr.out);have A1:=HO;clear HC HO;have k0:=HX.out.c0;have k1:=HX.out.c1;have k2:=HX.out.c2
 cases D5:zY ⟨i,l,r,ep (vQ L (((⟨num,rev,md,sz,⟨f,LV,GA⟩⟩:Gn),s):GP))⟩
 ·
  rw[D5] at Au A3;have HC:=zh (A3.trans (ai (by decide)));clear A3 D5;go_wp2_with fail;refine Au.out.mono ?_;rintro e v1 ⟨rfl,hb⟩;replace HR:=zh (HR.out.below hb);replace HB:=zh (zA HB.out hb);clear hb k0 k1 k2 k3 Au Bi HX HG;obtain ⟨z0,z1,z2,z3⟩:=HR.out.q;have zf:=HR.out.f;go_wp2_with fail;change bodyPost _ _ _ _ _ (pts v1 (w.heap.size+2) (zR 0 0 false none 0 0));have hby:=HR.out.all 0 0 false none 0 0;have eD:=zh (zD (B:=w.heap.size) (b:=(w.heap.size+2)) (by omega) (zR 0 0 false none 0 0) HB.out);generalize pts v1 (w.heap.size+2) (zR 0 0 false none 0 0)=V at *;exact au (v:=.tuple #[zO 0 0 false none 0 0,.int .i64 1]) (by simp[results,Tryz.results44,go_sem,hby.c0,hby.c1,hby.c2,hby.c3]) rfl (by rw[HC.out];exact nD.no eD.out)
 rw[D5] at Au A3;have HC:=zh (A3.trans (ah rfl));clear A3 D5;go_wp2_with fail;refine Au.out.mono ?_;rintro e v1 ⟨rfl,hb⟩;replace HX:=zh (HX.out.below hb);replace HR:=zh (HR.out.below hb);replace HB:=zh (zA HB.out hb);replace A1:=zh (zG A1.out hb);clear hb k0 k1 k2 k3 Au HG;obtain ⟨k0,k1,k2,k3⟩:=HX.out.q;obtain ⟨z0,z1,z2,z3⟩:=HR.out.q;have zf:=HR.out.f;go_wp2_with fail;change bodyPost _ _ _ _ _ (pts v1 (w.heap.size+2) (zR i l r (some ⟨g,0,none⟩) k rc));have Cz:=zh (show fD (pts v1 (w.heap.size+2) (zR i l r (some ⟨g,0,none⟩) k rc)) (.slice (some ⟨g,0,none⟩) k rc) (vQ L (((⟨num,rev,md,sz,⟨f,LV,GA⟩⟩:Gn),s):GP)) from qQ (wI (b:=w.heap.size+2) (by omega) A1.out _) iW.out (oZ.out _ (zD (B:=w.heap.size) (b:=w.heap.size+2) (by omega) (zR i l r (some ⟨g,0,none⟩) k rc) HB.out)));have hby:=HR.out.all i l r (some ⟨g,0,none⟩) k rc
 have eD:=zh (zD (B:=w.heap.size) (b:=(w.heap.size+2)) (by omega) (zR i l r (some ⟨g,0,none⟩) k rc) HB.out);generalize pts v1 (w.heap.size+2) (zR i l r (some ⟨g,0,none⟩) k rc)=V at *;exact au (v:=.tuple #[zO i l r (some ⟨g,0,none⟩) k rc,.int .i64 0]) (by simp[results,Tryz.results44,go_sem,hby.c0,hby.c1,hby.c2,hby.c3]) rfl (by rw[HC.out];exact ⟨⟨_,k,rc,vQ L (((⟨num,rev,md,sz,⟨f,LV,GA⟩⟩:Gn),s):GP),rfl,Cz.out,rfl⟩,eD.out⟩)
theorem Zl:xt Tryz.prog 25 38 14 240:=by
 obtain ⟨i,hi,hz,hs,hb⟩:=cm (P:=Tryz.prog) (e:=38) (z:=zd 0 0 0 0 Sl.nil 0 0) (size:=14) (bytes:=240) (by kernel_rfl);exact ⟨Tryz.underlying25,by decide,i,_,hi,hz,hs,hb,rfl⟩
theorem zIV (w:World) (i l:Int) (r:Bool) (a:Option Addr) (n c:Nat) (t u:TypeId):∃ W,(w.alloc (.cells (zK i l r a n c) t)).alloc (.cells (zK 0 0 false none 0 0) u)=W∧eW W w.heap.size i l r a n c∧eW W (w.heap.size+1) 0 0 false none 0 0∧Below w.heap.size w W∧W.heap.size=w.heap.size+2:=by
 refine ⟨_,rfl,(eW.new w i l r a n c t).below (zM _ 0 0 false none 0 0 u),?_,zA (zM w i l r a n c t) (zM _ 0 0 false none 0 0 u),by simp[cO]⟩;have:=eW.new (w.alloc (.cells (zK i l r a n c) t)) 0 0 false none 0 0 u
 rwa [cO] at this
def zMg (x:GP):mE:=⟨fun v w=>∃ j,v=.slice (some ⟨j,0,none⟩) 1 1∧Rd w 14 (.slice (some ⟨j,0,none⟩) 1 1) 1 (iL x),fun _ _ _ hb ⟨j,h1,h2⟩=>⟨j,h1,h2.below hb⟩⟩
theorem zHW (L:List GP) (k:Nat) (hk:k<L.length):(L.take (k+1)).flatMap iL=(L.take k).flatMap iL++iL (pat L k):=by
 rw[cV,aB hk,b7];unfold pat;rw[ax,aB hk];simp
theorem Zm {W:World} {B b:Nat} {e:TypeId} {sz n:Nat} {v:Value} {xs:List Value} (h:W.ownsRow B e sz v n xs) (hb:b<B):some b≠v.ownBlock:=fun e=>by
 have:=(h.lt b e.symm).1;omega
theorem eW.EK {W W':World} {b:Nat} {row:Option Nat} {i l:Int} {r:Bool} {a:Option Addr} {n c:Nat} (h:eW W b i l r a n c) (hg:W.grownBy W' row) (hne:some b≠row):eW W' b i l r a n c:=by
 have k:∀ i u,W.cell? ⟨b,i,none⟩=some u→W'.cell? ⟨b,i,none⟩=some u:=fun i u hu=>hg.cell hu hne
 refine ⟨k _ _ h.c0,k _ _ h.c1,k _ _ h.c2,k _ _ h.c3,fun i=>?_⟩;have e:=hg.block b h.lt hne;rw[← h.f i];unfold World.frozen?;rw[e]
end Go.Proofs.YtcgfilmmokmdjaaGreat
namespace Go.Proofs.YtcgfilmmokmdjaaGreat
open Go.RowKit
def dZ (W:World) (b:Nat) (cs:Array Value) (t:TypeId):Prop:=W.heap[b]?=some (.cells cs t (0,0))
section
variable {W W':World} {b:Nat} {cs:Array Value} {t:TypeId}
theorem dZ.lt (h:dZ W b cs t):b<W.heap.size:=(Array.getElem?_eq_some_iff.1 h).1
theorem dZ.below (h:dZ W b cs t) (hb:Below W.heap.size W W'):dZ W' b cs t:=by
 unfold dZ;rw[hb.block b h.lt];exact h
theorem dZ.new (W:World) (cs:Array Value) (t:TypeId):dZ (W.alloc (.cells cs t)) W.heap.size cs t:=dg W _
theorem dZ.CJ (h:dZ W b cs t) (i:Nat):W.cell? ⟨b,i,none⟩=cs[i]?:=by
 have h:W.heap[b]?=some (.cells cs t (0,0)):=h;simp[World.cell?,h]
theorem dZ.cell (h:dZ W b cs t) {i:Nat} {u:Value} (hu:cs[i]?=some u):W.cell? ⟨b,i,none⟩=some u:=(h.CJ i).trans hu
theorem dZ.frozen (h:dZ W b cs t) (i:Nat):W.frozen? ⟨b,i,none⟩=false:=by
 have h:W.heap[b]?=some (.cells cs t (0,0)):=h;unfold World.frozen?;rw[h];simp
theorem dZ.set (h:dZ W b cs t) (i:Nat) (u:Value):dZ (W.setCell ⟨b,i,none⟩ u) b (cs.setIfInBounds i u) t:=by
 have hl:=h.lt;have hk:=(Array.getElem?_eq_some_iff.1 h).2
 show (W.heap.modify b _)[b]?=_
 rw[bM (by rw[Array.size_modify];exact hl),Array.getElem_modify_self,hk]
 rfl
theorem dZ.sets:∀ (vs:List (Nat×Value)) {W:World} {cs:Array Value},dZ W b cs t→dZ (pts W b vs) b (vs.foldl (fun cs p=>cs.setIfInBounds p.1 p.2) cs) t
 |[],_,_,h=>h
 |(i,u)::r,_,_,h=>dZ.sets r (h.set i u)
theorem dZ.eE {c:Nat} (hne:b≠c):∀ (vs:List (Nat×Value)) {W:World},dZ W b cs t→dZ (pts W c vs) b cs t
 |[],_,h=>h
 |(i,u)::r,W,h=>dZ.eE hne r (show (W.setCell ⟨c,i,none⟩ u).heap[b]?=_ by rw[Below.heap_setCell W ⟨c,i,none⟩ u b hne];exact h)
theorem dZ.grown {row:Option Nat} (h:dZ W b cs t) (hg:W.grownBy W' row) (hne:some b≠row):dZ W' b cs t:=by
 unfold dZ;rw[hg.block b h.lt hne];exact h
def Qa (cs:Array Value) (xs:List Value):Prop:=∀ off:Nat,∃ (j:Nat) (u:Value),xs[j]?=some u∧cs[off+j]?≠some u
theorem TQ {sz n:Nat} {v:Value} {xs:List Value} (hr:Rd W sz v n xs) (h:dZ W b cs t) (ha:0<xs.length→Qa cs xs) (vs:List (Nat×Value)):Rd (pts W b vs) sz v n xs:=by
 obtain ⟨h0,a,cap,e,h1,h2,h3,h4⟩:=hr;refine ⟨h0,a,cap,e,h1,h2,h3,fun hp=>?_⟩;obtain ⟨b',off,e2,hc⟩:=h4 hp;refine ⟨b',off,e2,fun j u hj=>?_⟩;have hne:b'≠b:=by
  rintro rfl;obtain ⟨j',u',h5,h6⟩:=ha hp off;have h7:=hc j' u' h5;rw[h.CJ] at h7;exact h6 h7
 exact (yC (p:=⟨b',off+j,none⟩) hne vs W).trans (hc j u hj)
end
/-! ### A slot in its block -/
section
variable {W W':World} {b:Nat} {t:TypeId} {i l:Int} {r:Bool} {a:Option Addr} {n c:Nat}
theorem dZ.lF (h:dZ W b (zK i l r a n c) t):eW W b i l r a n c:=⟨h.cell rfl,h.cell rfl,h.cell rfl,h.cell rfl,h.frozen⟩
theorem dZ.u_ (h:dZ W b (zK i l r a n c) t) (i' l':Int) (r':Bool) (a':Option Addr) (n' c':Nat):dZ (pts W b (zR i' l' r' a' n' c')) b (zK i' l' r' a' n' c') t:=
 (((h.set 0 (.int .i64 i')).set 1 (.int .i64 l')).set 2 (.bool r')).set 3 (.slice a' n' c')
theorem zIp (i l:Int) (r:Bool) (a:Option Addr) (n c:Nat) (L:List GP) (hp:0<(L.flatMap iL).length):Qa (zK i l r a n c) (L.flatMap iL):=fun off=>by
 match L,hp with
 |p::q,_ =>
  match off with
  |0=>exact ⟨2,.int .i64 p.1.mode,rfl,fun h=>by cases h⟩
  |1=>exact ⟨1,.int .i64 p.1.rev,rfl,fun h=>by cases h⟩
  |2=>exact ⟨0,.int .i64 p.1.num,rfl,fun h=>by cases h⟩
  |3=>exact ⟨0,.int .i64 p.1.num,rfl,fun h=>by cases h⟩
  |k+4=>exact ⟨0,.int .i64 p.1.num,rfl,fun h=>by
    rw[Array.getElem?_eq_none (by show 4≤k+4+0;omega)] at h;cases h⟩
theorem zJd (i l:Int) (r:Bool) (a:Option Addr) (n c:Nat) (L:List It) (hp:0<(zU L).length):Qa (zK i l r a n c) (zU L):=fun off=>by
 match L,hp with
 |p::q,_ =>
  match off with
  |0=>exact ⟨0,.int .u64 p.key,rfl,fun h=>by cases h⟩
  |1=>exact ⟨0,.int .u64 p.key,rfl,fun h=>by cases h⟩
  |2=>exact ⟨0,.int .u64 p.key,rfl,fun h=>by cases h⟩
  |3=>exact ⟨0,.int .u64 p.key,rfl,fun h=>by cases h⟩
  |k+4=>exact ⟨0,.int .u64 p.key,rfl,fun h=>by
    rw[Array.getElem?_eq_none (by show 4≤k+4+0;omega)] at h;cases h⟩
theorem zH1 (n r md z:Int) (s:Sl) (l g:Int) (L:List It) (hp:0<(zU L).length):Qa (zX n r md z s l g) (zU L):=fun off=>by
 match L,hp with
 |p::q,_ =>
  refine ⟨0,.int .u64 p.key,rfl,fun h=>?_⟩
  match off with
  |0=>cases h
  |1=>cases h
  |2=>cases h
  |3=>cases h
  |4=>cases h
  |5=>cases h
  |6=>cases h
  |7=>cases h
  |8=>cases h
  |9=>cases h
  |10=>cases h
  |11=>cases h
  |12=>cases h
  |13=>cases h
  |k+14=>rw[Array.getElem?_eq_none (by show 14≤k+14+0;omega)] at h;cases h
theorem fG.lF {s:Sl} {f:Nat→List It} (h:fG W s f) (hb:dZ W b (zK i l r a n c) t) (vs:List (Nat×Value)):fG (pts W b vs) s f:=fun j hj =>
 yh (n:=(f j).length) (TQ (ui (h j hj)) hb (fun hp=>zJd _ _ _ _ _ _ _ hp) vs)
theorem fD.lF {v:Value} {L:List GP} (h:fD W v L) (hb:dZ W b (zK i l r a n c) t) (vs:List (Nat×Value)):fD (pts W b vs) v L:=
 ⟨⟨h.r.1,TQ h.r.2 hb (fun hp=>zIp _ _ _ _ _ _ _ hp) vs⟩,fun p hp=>(h.m p hp).lF hb vs⟩
theorem fG.gen {s:Sl} {f:Nat→List It} {n' r' md z:Int} {s':Sl} {l' g:Int} (h:fG W s f) (hb:dZ W b (zX n' r' md z s' l' g) t) (vs:List (Nat×Value)):fG (pts W b vs) s f:=fun j hj =>
 yh (n:=(f j).length) (TQ (ui (h j hj)) hb (fun hp=>zH1 _ _ _ _ _ _ _ _ hp) vs)
end
/-! ### A generation in its block -/
section
variable {W W':World} {b:Nat} {t:TypeId} {n r md z:Int} {s:Sl} {l g:Int}
theorem dZ.gen (h:dZ W b (zX n r md z s l g) t):eO W b n r md z s l g:=by
 refine ⟨h.cell rfl,h.cell rfl,h.cell rfl,h.cell rfl,fun j hj=>?_,h.cell rfl,h.cell rfl,h.frozen⟩;rcases Jc hj with e|e|e|e|e|e|e|e<;>subst e<;>exact h.cell rfl
theorem dZ.pW (h:dZ W b (zX n r md z s l g) t) (n' r' md' z':Int) (s':Sl) (l' g':Int):dZ (pts W b (zQ n' r' md' z' s' l' g')) b (zX n' r' md' z' s' l' g') t:=
 by
  have h1:=dZ.sets (zQ n' r' md' z' s' l' g') h;have e:(zQ n' r' md' z' s' l' g').foldl (fun cs p=>cs.setIfInBounds p.1 p.2) (zX n r md z s l g)=zX n' r' md' z' s' l' g':=by
   simp only[List.foldl_cons,List.foldl_nil,aK,aM,aJ]
  rw[e] at h1;exact h1
end
/-! ### What operations leave: a generation and its error; a generation; a GN box; a slot and its error; a slot -/
def Zo (c a b md z:Int) (f:Nat→List It) (L G:Int):mE:=⟨fun v w=>∃ s,v=.tuple #[zd a b md z s L G,.int .i64 c]∧fG w s f,fun _ _ _ hb ⟨s,h1,h2⟩=>⟨s,h1,h2.below hb⟩⟩
def zML (a b md z:Int) (f:Nat→List It) (L G:Int):mE:=⟨fun v w=>∃ s,v=zd a b md z s L G∧fG w s f,fun _ _ _ hb ⟨s,h1,h2⟩=>⟨s,h1,h2.below hb⟩⟩
def zMJ (t:TypeId) (B:Nat):mE:=⟨fun v w=>∃ b,v=.pointer (some ⟨b,0,none⟩)∧B≤b∧dZ w b (zX 0 0 0 0 Sl.nil 0 0) t,fun _ _ _ hb ⟨b,h1,h2,h3⟩=>⟨b,h1,h2,h3.below hb⟩⟩
def zME (L:List Nd):mE:=⟨fun v w=>∃ a n c es,v=.slice a n c∧nC w (.slice a n c) es∧es.map (·.1)=L,fun _ _ _ hb ⟨a,n,c,es,h1,h2,h3⟩=>⟨a,n,c,es,h1,h2.below hb,h3⟩⟩
end Go.Proofs.YtcgfilmmokmdjaaGreat
namespace Go.Proofs.YtcgfilmmokmdjaaGreat
open Go.RowKit
theorem TR:xt Tryz.prog 87 24 1 8:=by
 obtain ⟨i,hi,hz,hs,hb⟩:=cm (P:=Tryz.prog) (e:=24) (z:=.int .u64 0) (size:=1) (bytes:=8) (by kernel_rfl);exact ⟨Tryz.underlying87,by decide,i,_,hi,hz,hs,hb,rfl⟩
end Go.Proofs.YtcgfilmmokmdjaaGreat
