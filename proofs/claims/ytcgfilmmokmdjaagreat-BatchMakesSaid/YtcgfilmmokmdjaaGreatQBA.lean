import Derived.Test.YtcgfilmmokmdjaaGreatQAY
import Derived.Test.YtcgfilmmokmdjaaGreatBah
import Derived.Test.YtcgfilmmokmdjaaGreatQAO
import Derived.Test.YtcgfilmmokmdjaaGreatQAX
import Derived.Test.YtcgfilmmokmdjaaGreatBw
import Derived.Test.YtcgfilmmokmdjaaGreatQAZ
import Derived.Test.YtcgfilmmokmdjaaGreatBab
import Derived.Test.YtcgfilmmokmdjaaGreatQAA
import Derived.Deep.Slices
import Derived.Deep.SlicePairs
import Derived.ChangeArms
import Derived.Test.YtcgfilmmokmdjaaGreatQAD
import Derived.Test.YtcgfilmmokmdjaaGreatQAK
import Derived.Test.YtcgfilmmokmdjaaGreatQAG
set_option linter.all false
set_option maxRecDepth 100000
set_option maxHeartbeats 32000000
namespace Go.Proofs.YtcgfilmmokmdjaaGreat
open Go.RowKit
theorem zJj (P:fB) (take:Int) (Ci Cj Ak Ck sL By:Option Addr) (Cl Cm Al Cn sM Bz kn nn rn:Nat) (gM DF:List KP) (iX I2:List (Nd×Value)) (w:World)
  (h1:jY w P (.slice Ci kn Cl) gM (.slice Ak nn Al) iX (.slice sL rn sM)) (h2:jY w P (.slice Cj kn Cm) DF (.slice Ck nn Cn) I2 (.slice By rn Bz)) (hk:kn≤100000) (hkk:∀ x∈P.eu,x.2.length≤1000000) (hn:nn≤100000) (hr:rn≤100000) :
  Calls Tryz.prog 26 #[.agg #[.bool P.ey,.int .i64 take,.slice Ci kn Cl,.slice Ak nn Al,.slice sL rn sM],.agg #[.bool P.ey,.int .i64 take,.slice Cj kn Cm,.slice Ck nn Cn,.slice By rn Bz]] w fun e w'=>e=.returned (.bool true)∧Below w.heap.size w w':=by
 have oD:gM.length=kn:=by
  obtain ⟨_,_,e,_⟩:=h1.k.shape;injection e with _ e _;exact e.symm
 have hk2:DF.length=kn:=by
  obtain ⟨_,_,e,_⟩:=h2.k.shape;injection e with _ e _;exact e.symm
 have O1:=zh (show ∀ i,i<kn→(gY DF i).1=(gY gM i).1∧(gY DF i).2.2=(gY gM i).2.2∧(gY gM i).2.2.length≤1000000 from fun i hi=>by
  have e1:=zDj gM i
  have e2:=zDj DF i
  rw[h1.kk] at e1
  rw[h2.kk,e1] at e2
  have hm:yq P.eu i∈P.eu:=vJ (by rw[← h1.kk,xX];omega)
  have:=hkk _ hm
  rw[e1] at this
  injection e2 with e3 e4
  exact ⟨e3.symm,e4.symm,this⟩)
 have O2:=zh (show ∀ i,(xQ I2 i).1=(xQ iX i).1 from fun i=>by
  have hl:=h1.nn.trans h2.nn.symm
  have hlen:=aO List.length hl
  rw[aH,aH] at hlen
  unfold xQ
  rw[ax,ax]
  by_cases hi:i<iX.length
  ·
   have hi2:i<I2.length:=by omega
   rw[aB hi,aB hi2]
   have h3:(iX.map (·.1))[i]?=(I2.map (·.1))[i]?:=by rw[hl]
   rw[b_,b_,aB hi,aB hi2] at h3
   exact (Option.some.inj h3).symm
  rw[dX (by omega),dX (by omega)])
 have Ic:P.res.length=rn:=by
  obtain ⟨_,_,_,e,_⟩:=h1.r;injection e with _ e _;exact e.symm
 have Cp:=zh (show Rd w 1 (.slice sL P.res.length sM) P.res.length (P.res.map tV) from by have h:=h1.r;rwa [← Ic] at h);have Bt:=zh (show Rd w 1 (.slice By P.res.length Bz) P.res.length (P.res.map tV) from by have h:=h2.r;rwa [← Ic] at h);have iq:=zh Ic;clear Ic;have HH1:=zh h1;have HH2:=zh h2;clear h1 h2 oD hk2 hkk
 go_enter Tryz.func26,Tryz.ntmps26
 go_upto_region 1 with fail;change Code.wp _ _ _ _ ((w.alloc (.cells #[.bool P.ey,.int .i64 take,.slice Ci kn Cl,.slice Ak nn Al,.slice sL rn sM] 78)).alloc (.cells #[.bool P.ey,.int .i64 take,.slice Cj kn Cm,.slice Ck nn Cn,.slice By rn Bz] 78));have hb1:=(aj w.heap.size w).alloc (ag _) (.cells #[.bool P.ey,.int .i64 take,.slice Ci kn Cl,.slice Ak nn Al,.slice sL rn sM] 78);have HX:=zh (dZ.new w #[.bool P.ey,.int .i64 take,.slice Ci kn Cl,.slice Ak nn Al,.slice sL rn sM] 78);have hs1:(w.alloc (.cells #[.bool P.ey,.int .i64 take,.slice Ci kn Cl,.slice Ak nn Al,.slice sL rn sM] 78)).heap.size=w.heap.size+1:=by simp
 generalize w.alloc (.cells #[.bool P.ey,.int .i64 take,.slice Ci kn Cl,.slice Ak nn Al,.slice sL rn sM] 78)=w1 at *;have hb2:=(aj w1.heap.size w1).alloc (ag _) (.cells #[.bool P.ey,.int .i64 take,.slice Cj kn Cm,.slice Ck nn Cn,.slice By rn Bz] 78);have HY:=zh (dZ.new w1 #[.bool P.ey,.int .i64 take,.slice Cj kn Cm,.slice Ck nn Cn,.slice By rn Bz] 78);have fh:=zh (HX.out.below hb2);have eP:=zh (zA hb1 hb2);have HC1:=zh (show w.heap.size<w1.heap.size from by omega);rw[hs1] at HY;clear hb1 hb2 HX;have hs2:w1.heap.size<(w1.alloc (.cells #[.bool P.ey,.int .i64 take,.slice Cj kn Cm,.slice Ck nn Cn,.slice By rn Bz] 78)).heap.size:=by simp
 generalize w1.alloc (.cells #[.bool P.ey,.int .i64 take,.slice Cj kn Cm,.slice Ck nn Cn,.slice By rn Bz] 78)=w2 at *;have hs3:w.heap.size+1<w2.heap.size:=by omega
 clear hs1 hs2;have QU:=zh (fun W (hb:Below w2.heap.size w2 W)=>fh.out.below hb);have VQ:=zh (fun W (hb:Below w2.heap.size w2 W)=>HY.out.below hb);have x0:=fh.out.cell (i:=0) rfl;have x1:=fh.out.cell (i:=1) rfl;have x2:=fh.out.cell (i:=2) rfl;have x3:=fh.out.cell (i:=3) rfl;have x4:=fh.out.cell (i:=4) rfl;have y0:=HY.out.cell (i:=0) rfl;have y1:=HY.out.cell (i:=1) rfl;have y2:=HY.out.cell (i:=2) rfl;have y3:=HY.out.cell (i:=3) rfl;have y4:=HY.out.cell (i:=4) rfl;have eM:=zh (aj w2.heap.size w2);have l6:=zh (fun W (hb:Below w2.heap.size w2 W)=>show Below w.heap.size w W from eP.out.trans (hb.mono (by omega)));go_wp2_with fail;clear x0 x1 x2 x3 x4 y0 y1 y2 y3 y4 fh HY eP
 go_loopw [5] (fun iv W=>∃ k:Nat,iv=.int .i64 (k:Int)∧k≤kn∧Hid (Below w2.heap.size w2 W)) (fun iv _=>kn-(intOf iv).toNat)
 case atStart=>exact ⟨0,rfl,aq _,eM⟩
 clear eM;obtain ⟨k,rfl,hk9,HB⟩:=hrel
 by_cases hlt:k<kn
 ·
  have i1:(k:Int)<(kn:Int):=by omega
  obtain ⟨b1,o1,rfl,hu1,c0,c1⟩:=(HH1.out.k.below (l6.out _ HB.out)).at hlt;obtain ⟨b2,o2,rfl,hu2,d0,d1⟩:=(HH2.out.k.below (l6.out _ HB.out)).at hlt;obtain ⟨hq1,Ji,Ma⟩:=O1.out k hlt;rw[Ji] at hu2;rw[hq1] at d0;generalize gY gM k=p1 at *;generalize gY DF k=p2 at *;obtain ⟨num,v1,keys⟩:=p1;obtain ⟨Jz,v2,aca⟩:=p2;dsimp only at hu1 hu2 c0 c1 d0 d1 Ma;have HS:=zh (fun W (hb:Below wr.heap.size wr W)=>zIC v1 v2 keys W (iE.below hu1 hb) (iE.below hu2 hb) (by omega));obtain ⟨a1,cc1,rfl,_,_⟩:=hu1.fK;obtain ⟨a2,cc2,rfl,_,_⟩:=hu2.fK;clear hq1 Ji Ma hu1 hu2;have c0:=zB c0;have c1:=zB c1;have d0:=zB d0;have d1:=zB d1;have QV:=(QU.out _ HB.out).cell (i:=2) rfl;have y2c:=(VQ.out _ HB.out).cell (i:=2) rfl;go_upto_region 6 with fail;have x2:=zB QV;have y2:=zB y2c;clear QV y2c;refine zC (by kernel_rfl) (by kernel_rfl) ?_
  repeat (go_big_quiet_step ((exact zE (HS.out _ (eo.h _)))))
  refine aA ?_;intro _ hw';obtain ⟨q,hw'⟩:=hw';subst hw';have eM:=zh (zA HB.out q.h);clear c0 c1 d0 d1 x2 y2 HS;generalize q.w'=v0 at *;clear q HB;go_wp2_with fail;exact ⟨⟨k+1,by go_num,by omega,eM⟩,by simp[intOf];omega⟩
 have i1:¬ (k:Int)<(kn:Int):=by omega
 have QV:=(QU.out _ HB.out).cell (i:=2) rfl;clear O1;go_wp2_with fail;clear QV;have eM:=HB
 go_loopw [6] (fun iv W=>∃ k:Nat,iv=.int .i64 (k:Int)∧k≤nn∧Hid (Below w2.heap.size w2 W)) (fun iv _=>nn-(intOf iv).toNat)
 case atStart=>exact ⟨0,rfl,aq _,eM⟩
 clear eM HB;obtain ⟨k,rfl,hk9,HB⟩:=hrel;have VR:=(QU.out _ HB.out).cell (i:=3) rfl
 by_cases hlt:k<nn
 ·
  have i1:(k:Int)<(nn:Int):=by omega
  obtain ⟨b1,o1,rfl,hu1,c0,c1,c2,c3⟩:=(HH1.out.n.below (l6.out _ HB.out)).at hlt;obtain ⟨b2,o2,rfl,hu2,d0,d1,d2,d3⟩:=(HH2.out.n.below (l6.out _ HB.out)).at hlt;rw[O2.out k] at hu2 d0 d1 d2;generalize (xQ iX k).1=nd at *;generalize (xQ iX k).2=v1 at *;generalize (xQ I2 k).2=v2 at *;have HS:=zh (fun W (hb:Below wr.heap.size wr W)=>(zFp nd nd v1 v2 W (iE.below hu1 hb) (iE.below hu2 hb)).mono (R':=fun e w'=>e=.returned (.bool true)∧Below W.heap.size W w') fun e w' h=>⟨by rw[h.1];simp,h.2⟩);obtain ⟨a1,cc1,rfl,_,_⟩:=hu1.fK;obtain ⟨a2,cc2,rfl,_,_⟩:=hu2.fK;clear hu1 hu2;have c0:=zB c0;have c1:=zB c1;have c2:=zB c2;have c3:=zB c3;have d0:=zB d0;have d1:=zB d1;have d2:=zB d2;have d3:=zB d3;have y3c:=(VQ.out _ HB.out).cell (i:=3) rfl;go_upto_region 11 with fail;have x3:=zB VR;have y3:=zB y3c;clear VR y3c
  refine zC (by kernel_rfl) (by kernel_rfl) ?_
  repeat (go_big_quiet_step ((exact zE (HS.out _ (eo.h _)))))
  refine aA ?_;intro _ hw';obtain ⟨q,hw'⟩:=hw';subst hw';have eM:=zh (zA HB.out q.h);clear c0 c1 c2 c3 d0 d1 d2 d3 x3 y3 HS;generalize q.w'=v0 at *;clear q HB;go_wp2_with fail;exact ⟨⟨k+1,by go_num,by omega,eM⟩,by simp[intOf];omega⟩
 have i1:¬ (k:Int)<(nn:Int):=by omega
 go_wp2_with fail;clear VR O2;have eM:=HB
 go_loopw [7] (fun iv W=>∃ k:Nat,iv=.int .i64 (k:Int)∧k≤rn∧Hid (Below w2.heap.size w2 W)) (fun iv _=>rn-(intOf iv).toNat)
 case atStart=>exact ⟨0,rfl,aq _,eM⟩
 clear eM HB;obtain ⟨k,rfl,hk9,HB⟩:=hrel;have x4c:=(QU.out _ HB.out).cell (i:=4) rfl
 by_cases hlt:k<rn
 ·
  have i1:(k:Int)<(rn:Int):=by omega
  obtain ⟨b1,o1,rfl,c0⟩:=zLQ (Cp.out.below (l6.out _ HB.out)) (show k<P.res.length by have:=iq.out;omega);obtain ⟨b2,o2,rfl,d0⟩:=zLQ (Bt.out.below (l6.out _ HB.out)) (show k<P.res.length by have:=iq.out;omega);generalize FW P.res k=z at *;have c0:=zB c0;have d0:=zB d0;have y4c:=(VQ.out _ HB.out).cell (i:=4) rfl;go_upto_region 16 with fail;have x4:=zB x4c;have y4:=zB y4c;clear x4c y4c;refine zC (by kernel_rfl) (by kernel_rfl) ?_
  repeat (go_big_quiet_step (fail))
  refine aA ?_;intro _ hw';obtain ⟨q,hw'⟩:=hw';subst hw';have eM:=zh (zA HB.out q.h);clear c0 d0 x4 y4;generalize q.w'=v0 at *;clear q HB;go_wp2_with fail;exact ⟨⟨k+1,by go_num,by omega,eM⟩,by simp[intOf];omega⟩
 have i1:¬ (k:Int)<(rn:Int):=by omega
 have HBf:=zh (l6.out _ HB.out);go_wp2_with fail;go_ret;exact ⟨rfl,HBf.out⟩
theorem zFa (i l:Int) (r:Bool) (a:Option Addr) (n c:Nat) (L:List GP) (w:World) (h:fD w (.slice a n c) L) :
  Calls Tryz.prog 18 #[zO i l r a n c] w fun e w'=>e=.returned (.bool (vR L))∧Below w.heap.size w w':=by
 have fO:L.length=n:=by
  obtain ⟨_,_,e,_⟩:=h.shape;injection e with _ e _;exact e.symm
 have HR:=zh h;have jq:=zh (fun j (hj:j<n) k (hk:k<8) h=>zFW (L:=L) (i:=j) (by rw[fO];exact hj) hk h);have lj:=zh (fun (h:∀ j,j<n→∀ k,k<8→((pat L j).1.m.st k).length≤8)=>show vR L=decide (n≤12) by rw[zEM (fun j hj=>h j (by rw[← fO];exact hj)),fO]);have hcap:n≤9223372036854775807:=by
  show n≤maxLen
  obtain ⟨_,_,e,h1,h2⟩:=h.shape;rw[← fO];exact ak h1 h2
 clear fO h;have eB:=zh (eW.new w i l r a n c 31);have eH:=zh (zM w i l r a n c 31)
 go_enter Tryz.func18,Tryz.ntmps18
 go_upto_region 1 with fail;obtain ⟨W,hW⟩:∃ W,w.alloc (.cells (zK i l r a n c) 31)=W:=⟨_,rfl⟩
 change Code.wp _ _ _ _ (w.alloc (.cells (zK i l r a n c) 31));rw[hW] at eB eH ⊢;clear hW;have k3:=eB.out.c3;go_wp2_with fail;clear k3
 go_loopw [9] (fun iv V=>∃ j:Nat,iv=.int .i64 (j:Int)∧j≤n∧Hid (∀ q,q<j→∀ k,k<8→((pat L q).1.m.st k).length≤8)∧Hid (Below W.heap.size W V)) (fun iv _=>n-(intOf iv).toNat)
 case atStart=>exact ⟨0,rfl,aq _,zh (fun q hq=>by omega),zh (aj _ _)⟩
 obtain ⟨j,rfl,hj,mf,iO⟩:=hrel;have l6:=zh (zA eH.out iO.out)
 by_cases hlj:j<n
 ·
  have j1:(j:Int)<(n:Int):=by omega
  have hat:=(HR.out.below l6.out).at hlj
  have jS:=zh ((HR.out.below l6.out).m _ (yX (l:=L) (i:=j) (by
   obtain ⟨_,_,e,_⟩:=HR.out.shape
   injection e with _ e _;omega)))
  have HNj:=zh (jq.out j hlj);obtain ⟨b,off,rfl,hg⟩:=hat
  have lZ:=zh (show (∀ k,k<8→((pat L j).1.m.st k).length≤8)→∀ q,q<j+1→∀ k,k<8→((pat L q).1.m.st k).length≤8 from fun h q hq=>by
   by_cases e:q=j
   ·
    rw[e];exact h
   exact mf.out q (by omega))
  clear mf;generalize pat L j=p at *;obtain ⟨⟨num,rev,md,sz,f,LV,GA⟩,s⟩:=p;dsimp only at *;have HL:=zh (fun k (hk:k<8)=>jS.out.n hk);clear jS;obtain ⟨g0,g1,g2,g3,g4,g5,g6,g7,g8,g9,g10,g11,g12,g13⟩:=hg.q;dsimp only at g0 g1 g2 g3 g4 g5 g6 g7 g8 g9 g10 g11 g12 g13;have gX:=zh (eO.new wr num rev md sz s LV GA 113);have mM:=zh (zZ wr num rev md sz s LV GA 113);go_upto_region 4 with fail;change Code.wp _ _ _ _ (wr.alloc (.cells (zX num rev md sz s LV GA) 113));obtain ⟨V,hV⟩:∃ V,wr.alloc (.cells (zX num rev md sz s LV GA) 113)=V:=⟨_,rfl⟩
  rw[hV] at gX mM ⊢;have lX:=zh (jo iO.out iO.out.size mM.out);clear hV hg g0 g1 g2 g3 g4 g5 g6 g7 g8 g9 g10 g11 g12 g13;go_wp2_with fail
  go_loop [5,13] (fun _ iv=>∃ k:Nat,iv=.int .i64 (k:Int)∧k≤8∧Hid (∀ q,q<k→(f q).length≤8)) (fun _ iv=>8-(intOf iv).toNat)
  case atStart=>exact ⟨0,rfl,aq _,zh (fun q hq=>by omega)⟩
  as_aux_lemma =>
  obtain ⟨k,rfl,hk,Hf⟩:=hrel
  by_cases jR:k<8
  ·
   have k1:(k:Int)<8:=by omega
   have ck:=gX.out.c k jR;rw[show s.v k=.slice (s.a k) (s.n k) (s.c k) from rfl,HL.out k jR] at ck;have HNk:=zh (HNj.out k jR)
   by_cases hl:(f k).length≤8
   ·
    have sV:((f k).length:Int)≤8:=by omega
    have BI:=zh (show ∀ q,q<k+1→(f q).length≤8 from fun q hq=>by
     by_cases e:q=k
     ·
      rw[e];exact hl
     exact Hf.out q (by omega))
    generalize (f k).length=fk at *;go_wp2_with fail;exact ⟨⟨k+1,by go_num,by omega,BI⟩,by simp[intOf];omega⟩
   have sV:¬ ((f k).length:Int)≤8:=by omega
   have HF:=zh (HNk.out hl);have K_:=zh (zA eH.out lX.out);generalize (f k).length=fk at *;go_wp2_with fail;go_ret;exact ⟨zI HF.out.symm,K_.out⟩
  have k1:¬ (k:Int)<8:=by omega
  have Av:=zh (lZ.out (fun q hq=>Hf.out q (by omega)));go_wp2_with fail;exact ⟨⟨j+1,by go_num,by omega,Av,lX⟩,by simp[intOf];omega⟩
 have j1:¬ (j:Int)<(n:Int):=by omega
 have HF:=zh (lj.out (fun q hq=>mf.out q (by omega)));have k3:=(eB.out.below iO.out).c3;have hd:decide ((n:Int)≤12)=decide (n≤12):=by congr 1;rw[eq_iff_iff];omega
 go_wp2_with fail;go_ret;exact ⟨zI (by rw[HF.out,← hd]),l6.out⟩
theorem zCS (ac:List oM) {L:List GP} (h:ep L=(xR ac).dY):(∀ p∈L,∀ j,j<8→(p.1.m.st j).length≤48)∧1≤L.length∧L.length≤8:=by
 have hI:=zGk ac;refine ⟨fun p hp j hj=>hI.len p.1 (h▸cZ hp) j hj,?_⟩;have h1:=hI.v.len;have h2:=aO List.length h;rw[zn] at h2;omega
theorem zEq (s:eX) (K:List Rq) (hl:fu 600 s.dY):(yT s K).1.eu.length≤8∧(∀ x∈(yT s K).1.eu,x.2.length≤1000)∧(yT s K).1.needs.length≤16∧(yT s K).1.res.length≤16:=by
 unfold yT
 split
 ·
  obtain ⟨h1,h2⟩:=Vh (K:=600) (G:=s.dY.length) K (wJ s) ⟨hl,ou.nil _,ag _,⟨cD _,cD _⟩,ag _⟩ (aq _);exact ⟨h2.k.Uk,fun x hx=>ak (h2.k.len x hx) (by omega),ak h2.e h1,h1⟩
 exact ⟨aq _,(fun x hx=>by cases hx),aq _,aq _⟩
def H_ (w:World) (b k:Nat):Prop:=∃ (a:Option Addr) (c:Nat) (qs:List (Rq×Value)),w.cell? ⟨b,k,none⟩=some (.slice a qs.length c)∧rG w (.slice a qs.length c) qs∧qs.length≤20∧∀ p∈qs,p.1.data.length≤5000
theorem H_.below {w w':World} {b k:Nat} (h:H_ w b k) (hb:Below w.heap.size w w'):H_ w' b k:=by
 obtain ⟨a,c,qs,h1,h2,h3,h4⟩:=h;exact ⟨a,c,qs,hb.keeps' h1,h2.below hb,h3,h4⟩
def zMh (P:fB) (ey:Bool) (take:Int) (kn:Nat) (ks:List KP) (nv:Value) (es:List (Nd×Value)) (rv:Value):mE:=⟨fun v w=>∃ a c,v=.agg #[.bool ey,.int .i64 take,.slice a kn c,nv,rv]∧jY w P (.slice a kn c) ks nv es rv,fun _ _ _ hb ⟨a,c,h1,h2⟩=>⟨a,c,h1,h2.below hb⟩⟩
theorem zLV (much:Bool) (q:Rq):(H7 much q).data.length≤5000:=by
 unfold H7;dsimp only;rw[aw,ay]
 split
 ·
  rw[dA];omega
 rw[dI];omega
theorem zEy (i l:Int) (r:Bool) (a:Option Addr) (n c:Nat) (L:List GP) (v vl:Value) (ac:List oM) (qs:List (Rq×Value)) (much:Bool) (w:World) (h:fD w (.slice a n c) L) (hA:EM w v ac) (hq:rG w vl qs) :
  Calls Tryz.prog 4 #[zO i l r a n c,v,vl,.bool much] w fun e w'=>e=.returned (.bool true)∧Below w.heap.size w w':=by
 obtain ⟨va,vc,rfl,rP,hv2⟩:=hA.shape;obtain ⟨qa,qc,rfl,hq1,Ji⟩:=hq.shape;have AY:=zh (fun W (hb:Below w.heap.size w W)=>zFa i l r a n c L W (h.below hb));have Pz:=zh (fun hl=>zD2 (L:=L) hl);have HMa:=zh (fun W (hb:Below w.heap.size w W)=>zGh _ ac W (hA.below hb));have QW:=zh (fun W=>zDa W);have jf:=zh h;have jb:=zh h.len;have HQ:=zh hq;generalize ac.length=an at *;clear h hA rP hv2 hq;have eB:=zh (eW.new w i l r a n c 31);have HB:=zh (zM w i l r a n c 31)
 go_enter Tryz.func4,Tryz.ntmps4
 go_upto_region 1 with fail;change Code.wp _ _ _ _ (w.alloc (.cells (zK i l r a n c) 31));generalize w.alloc (.cells (zK i l r a n c) 31)=W0 at *;obtain ⟨k0,k1,k2,k3⟩:=eB.out.q;have amq:qs.length≤9223372036854775807:=C1 hq1 Ji|> fun h=>by omega
 go_wp2_with fail;refine (AY.out W0 HB.out).mono ?_;rintro e w1 ⟨rfl,hb⟩;replace eB:=zh (eB.out.below hb);replace HB:=zh (zA HB.out hb);clear hb k0 k1 k2 k3 AY;generalize hli:vR L=lb at *
 cases lb
 ·
  clear hli;go_wp2_with fail;refine (QW.out _).mono ?_;rintro e w2 ⟨rfl,hb⟩;have eD:=zh (zA HB.out hb);clear hb;go_wp2_with fail;go_ret;exact ⟨rfl,eD.out⟩
 have KD:=zh (Pz.out rfl);clear hli Pz
 by_cases h20:20<qs.length
 ·
  have i1:(20:Int)<(qs.length:Int):=by omega
  go_wp2_with fail;refine (QW.out _).mono ?_;rintro e w2 ⟨rfl,hb⟩;have eD:=zh (zA HB.out hb);clear hb;go_wp2_with fail;go_ret;exact ⟨rfl,eD.out⟩
 have i1:¬ (20:Int)<(qs.length:Int):=by omega
 go_wp2_with fail
 go_loopw [29] (fun iv W=>∃ k:Nat,iv=.int .i64 (k:Int)∧k≤qs.length∧Hid (∀ j,j<k→(jV qs j).1.data.length≤5000)∧Hid (Below w1.heap.size w1 W)) (fun iv _=>qs.length-(intOf iv).toNat)
 case atStart=>exact ⟨0,rfl,aq _,zh (fun j hj=>absurd hj (by omega)),zh (aj _ _)⟩
 obtain ⟨k,rfl,hk,HD,jT⟩:=hrel
 by_cases hlt:k<qs.length
 ·
  have i2:(k:Int)<(qs.length:Int):=by omega
  obtain ⟨qb,qo,rfl,hd,_,_,_,_,c4⟩:=((HQ.out.below HB.out).below jT.out).at (j:=k) hlt;obtain ⟨da,dc,e5,_,_⟩:=hd.fK;rw[e5] at c4;have FH:=HD;have hlen:(jV qs k).1.data.length=(jV qs k).1.data.length:=rfl;generalize il:(jV qs k).1.data.length=dl at *;have CX:=zh il;clear il hlen hd e5
  by_cases h5:5000<dl
  ·
   have i3:(5000:Int)<(dl:Int):=by omega
   replace HB:=zh (zA HB.out jT.out);go_wp2_with fail;refine (QW.out _).mono ?_;rintro e w2 ⟨rfl,hb⟩;have eD:=zh (zA HB.out hb);clear hb;go_wp2_with fail;go_ret;exact ⟨rfl,eD.out⟩
  have i3:¬ (5000:Int)<(dl:Int):=by omega
  have Ie:=zh (show ∀ j,j<k+1→(jV qs j).1.data.length≤5000 from fun j hj=>by
   by_cases e:j=k
   ·
    subst e;rw[CX.out];omega
   exact HD.out j (by omega))
  go_wp2_with fail;exact ⟨⟨k+1,by go_num,by omega,Ie,jT⟩,by simp[intOf];omega⟩
 have i2:¬ (k:Int)<(qs.length:Int):=by omega
 have HD5:=zh (show ∀ p∈qs,p.1.data.length≤5000 from fun p hp=>by
  obtain ⟨j,hj,rfl⟩:=cG hp
  have:=HD.out j (by omega)
  unfold jV at this
  rw[ax,aB hj] at this
  exact this)
 replace HB:=zh (zA HB.out jT.out);replace eB:=zh (eB.out.below jT.out);have FF:qs.length≤20:=by omega
 clear HD jT;generalize Md:qs.length=qn at *;have HQn:=zh Md;clear Md;go_upto_region 9 with fail;clear i2 hlt hk i1 h20;refine wB [eR (zO i l r a n c),eR (.slice va an vc),slV (xR ac) 8,zMe,eR (.int .i64 2),eR (.int .i64 0)] 87 (by kernel_rfl) (by kernel_rfl) (by kernel_rfl) (by rfl) (by kernel_rfl) (fun f=>by simp[fF,zT,Act.put];exact rfl) ?_ ?_
 ·
  refine ⟨?_,?_,?_,?_,?_,?_,trivial⟩
  ·
   intro f w1 hb hd;clear hd;dsimp only;obtain ⟨q0,q1,q2,q3⟩:=(eB.out.below hb).q;go_wp2_with fail;exact pS rfl (by simp)
  ·
   intro f w1 hb hd;clear hd;dsimp only;go_wp2_with fail;exact pS rfl (by simp)
  ·
   intro f w1 hb hd;have d1:f 1=(.slice va an vc):=hd 1 (by kernel_rfl);clear hd;dsimp only;rw[d1];go_wp2_with fail;refine (HMa.out w1 (zA HB.out hb)).mono ?_;rintro e w9 ⟨⟨ma,mn,mc,mL,rfl,hmr,hmg⟩,gI⟩;have hm8:mn≤8:=by rw[← hmr.len];exact (zCS ac hmg).2.2
   go_wp2_with fail;exact ⟨rfl,gI,fun t ht=>by injection ht with ht;subst ht;exact ⟨⟨ma,mn,mc,mL,rfl,hmr,hmg,hm8⟩,fun h=>by simp at h⟩⟩
  ·
   intro f w1 hb hd;have d0:f 0=(zO i l r a n c):=hd 0 (by kernel_rfl);obtain ⟨a2,n2,c2,L2,d2,r2,g2,m2⟩:=show ∃ a n c L,f 2=zO (xR ac).id (xR ac).lim (xR ac).ro a n c∧fD w1 (.slice a n c) L∧ep L=(xR ac).dY∧n≤8 from hd 2 (by kernel_rfl);clear hd;dsimp only;rw[d0];rw[d2];have lC:=(aj w1.heap.size w1).alloc (ag _) (.cells #[.int .i64 i,.int .i64 l,.bool r,.slice a n c,.int .i64 (xR ac).id,.int .i64 (xR ac).lim,.bool (xR ac).ro,.slice a2 n2 c2] 31);have hE:=dZ.new w1 #[.int .i64 i,.int .i64 l,.bool r,.slice a n c,.int .i64 (xR ac).id,.int .i64 (xR ac).lim,.bool (xR ac).ro,.slice a2 n2 c2] 31
   have h1:o5 (w1.alloc (.cells #[.int .i64 i,.int .i64 l,.bool r,.slice a n c,.int .i64 (xR ac).id,.int .i64 (xR ac).lim,.bool (xR ac).ro,.slice a2 n2 c2] 31)) w1.heap.size 0:=⟨i,l,r,a,n,c,L,⟨hE.cell rfl,hE.cell rfl,hE.cell rfl,hE.cell rfl⟩,(jf.out.below (zA HB.out hb)).below lC,fun p hp j hj=>ak (KD.out.2 p hp j hj) (by decide),by rw[← jb.out];exact KD.out.1⟩
   have h2:o5 (w1.alloc (.cells #[.int .i64 i,.int .i64 l,.bool r,.slice a n c,.int .i64 (xR ac).id,.int .i64 (xR ac).lim,.bool (xR ac).ro,.slice a2 n2 c2] 31)) w1.heap.size 1:=⟨(xR ac).id,(xR ac).lim,(xR ac).ro,a2,n2,c2,L2,⟨hE.cell rfl,hE.cell rfl,hE.cell rfl,hE.cell rfl⟩,r2.below lC,(zCS ac g2).1,by omega⟩
   have fV:=zh lC;have HT:=zh (And.intro h1 h2);clear lC hE h1 h2;go_wp2_with fail;refine ⟨rfl,fV.out,?_⟩;intro t ht;injection ht with ht;subst ht;exact ⟨⟨_,rfl,HT.out.1,HT.out.2⟩,fun h=>by simp at h⟩
  ·
   intro f w1 hb hd;obtain ⟨j3,d3,t3,u3⟩:=show ∃ j,f 3=.slice (some ⟨j,0,none⟩) 2 2∧o5 w1 j 0∧o5 w1 j 1 from hd 3 (by kernel_rfl);clear hd;dsimp only;rw[d3];go_wp2_with fail;exact pS rfl (by simp)
  intro f w1 hb hd;clear hd;dsimp only;go_wp2_with fail;exact pS rfl (by simp)
 intro f w3 hb hA;obtain ⟨bR,d3,HT0,Gl⟩:=show ∃ j,f 3=.slice (some ⟨j,0,none⟩) 2 2∧o5 w3 j 0∧o5 w3 j 1 from hA 3 (show 3<6 by decide);have d4:f 4=.int .i64 2:=hA 4 (show 4<6 by decide);have d5:f 5=.int .i64 0:=hA 5 (show 5<6 by decide);clear hA
 try dsimp only
 rw[d3,d4,d5];clear d3 d4 d5;generalize f 0=z0;generalize f 1=z1;generalize f 2=z2;clear f
 have AW:=zh (show ∀ k,k<2→o5 w3 bR k from fun k hk=>by
  rcases (show k=0∨k=1 by omega) with rfl|rfl
  ·
   exact HT0
  exact Gl)
 replace HB:=zh (zA HB.out hb);clear hb HT0 Gl eB jf KD jb;clear L;go_wp2_with fail
 go_loopw [46] (fun jv W=>∃ k:Nat,jv=.int .i64 (k:Int)∧k≤2∧Hid (Below w3.heap.size w3 W)) (fun jv _=>2-(intOf jv).toNat)
 case atStart=>exact ⟨0,rfl,aq _,zh (aj _ _)⟩
 obtain ⟨k,rfl,hk2,jT⟩:=hrel
 by_cases hlt2:k<2
 ·
  have j1:(k:Int)<2:=by omega
  obtain ⟨xi,xl,xr,xa,xn,xc,X,hSA,VT,T4,hxn⟩:=(AW.out k hlt2).below jT.out;have nj:=zh VT;have KE:fu 48 (ep X):=fun g hg j hj=>by
   obtain ⟨p,hp,rfl⟩:=List.mem_map.1 hg;exact T4 p hp j hj
  have HL6:=zh (show fu 600 (ep X) from KE.mono (by decide));have HL7:=zh (show fu 700 (ep X) from KE.mono (by decide));have HLg:=zh (show (ep X).length≤1000000 from by rw[zn,VT.len];omega);obtain ⟨c0,c1,c2,c3⟩:=hSA;clear VT T4 KE;go_upto_region 12 with fail;change Code.wp _ _ _ _ (wr.alloc (.cells (zK xi xl xr xa xn xc) 31));have hb:=zM wr xi xl xr xa xn xc 31;have HS:=zh (dZ.new wr (zK xi xl xr xa xn xc) 31);replace nj:=zh (nj.out.below hb);replace jT:=zh (zA jT.out hb);clear hb c0 c1 c2 c3;generalize wr.alloc (.cells (zK xi xl xr xa xn xc) 31)=v1 at *;generalize wr.heap.size=b11 at *;have Bb:=zh (zEO (.slice qa qn qc) qs 20 much v1 (HQ.out.below (zA HB.out jT.out)) (by decide));have J5:=zh (HQ.out.below (zA HB.out jT.out));go_wp2_with fail;refine Bb.out.mono ?_;rintro e v2 ⟨v4,q4,rfl,G0,hm4,hb⟩;replace nj:=zh (nj.out.below hb)
  replace HS:=zh (HS.out.below hb);replace J5:=zh (J5.out.below hb);replace jT:=zh (zA jT.out hb);have VU:=zh (show rG v2 v4 q4 from ⟨⟨fun x _=>th x,zk G0.row⟩,fun p hp=>(G0.dat p hp).rd⟩);have VW:q4.length≤20:=by
   have:=aO List.length hm4;rw[aH,aH,ay] at this;omega
  have Bq:=zh (show ∀ p∈q4,p.1.data.length≤5000 from fun p hp=>by
   have h1:p.1∈q4.map (·.1):=cZ hp
   rw[hm4] at h1
   obtain ⟨y,_,e⟩:=List.mem_map.1 h1
   rw[← e]
   exact zLV _ _)
  clear hb Bb G0 hm4;obtain ⟨O3,qc4,rfl,_⟩:=VU.out.shape;have hb:=(aj v2.heap.size v2).alloc (ag _) (.cells #[.slice qa qn qc,.slice O3 q4.length qc4] 60);have hE:=dZ.new v2 #[.slice qa qn qc,.slice O3 q4.length qc4] 60
  have O4:=zh (show ∀ j,j<2→H_ (v2.alloc (.cells #[.slice qa qn qc,.slice O3 q4.length qc4] 60)) v2.heap.size j from fun j hj=>by
   rcases (show j=0∨j=1 by omega) with rfl|rfl
   ·
    have hn:=HQn.out
    subst hn
    exact ⟨qa,qc,qs,hE.cell rfl,J5.out.below hb,FF,HD5.out⟩
   exact ⟨O3,qc4,q4,hE.cell rfl,VU.out.below hb,VW,Bq.out⟩)
  replace nj:=zh (nj.out.below hb);replace HS:=zh (HS.out.below hb);replace jT:=zh (zA jT.out hb);clear hb hE J5 VU Bq;go_wp2_with fail;generalize v2.alloc (.cells #[.slice qa qn qc,.slice O3 q4.length qc4] 60)=v3 at *;generalize v2.heap.size=b54 at *
  go_loopw [56] (fun jv V=>∃ j:Nat,jv=.int .i64 (j:Int)∧j≤2∧Hid (Below v3.heap.size v3 V)) (fun jv _=>2-(intOf jv).toNat)
  case atStart=>exact ⟨0,rfl,aq _,zh (aj _ _)⟩
  obtain ⟨j,rfl,hj,iO⟩:=hrel
  by_cases VX:j<2
  ·
   have j2:(j:Int)<2:=by omega
   obtain ⟨ka,kc,K,hc,hK,amy,hKd⟩:=(O4.out j VX).below iO.out;have HK:=zh hK;have Lr:=zh hKd;clear hK hKd;have BD:=zh (HS.out.below iO.out);have oL:=zh (nj.out.below iO.out);obtain ⟨k0,k1,k2,k3⟩:=(dZ.lF BD.out).q;go_wp2_with fail;clear hc;refine (zHA xi xl xr xa xn xc X wr oL.out (by omega)).mono ?_;rintro e u1 ⟨⟨sa,sc,rfl,hr1⟩,hb⟩;clear k0 k1 k2 k3;have fq:=zh hr1;replace HK:=zh (HK.out.below hb);replace BD:=zh (BD.out.below hb);replace oL:=zh (oL.out.below hb);replace iO:=zh (zA iO.out hb);clear hb hr1;go_wp2_with fail;refine (zDW (.slice ka K.length kc) K u1 HK.out (by omega)).mono ?_;rintro e u2 ⟨gv,rfl,hown,hb⟩;obtain ⟨ga,gc,rfl,_⟩:=zH hown;replace HK:=zh (HK.out.below hb);replace BD:=zh (BD.out.below hb);replace oL:=zh (oL.out.below hb);replace fq:=zh (fq.out.below hb);replace iO:=zh (zA iO.out hb)
   have HG:=zh (show rG u2 (.slice ga K.length gc) K from ⟨⟨fun x _=>th x,zk hown⟩,HK.out.dat⟩);clear hb hown;go_wp2_with fail;refine (zCM ⟨xi,xl,xr,ep X⟩ sa xn sc X ga gc K u2 fq.out rfl HL7.out HLg.out HG.out (by omega) (fun p hp=>ak (Lr.out p hp) (by decide))).mono ?_;rintro e u3 ⟨kv,ks,nv,es,rv,rfl,hpl,hb⟩;replace HK:=zh (HK.out.below hb);replace BD:=zh (BD.out.below hb);replace oL:=zh (oL.out.below hb);replace iO:=zh (zA iO.out hb);have hsm:=zEq ⟨xi,xl,xr,ep X⟩ (K.map (·.1)) HL6.out;have nN:=zh (fun W (hr:fD W (.slice xa xn xc) X) (hq:rG W (.slice ka K.length kc) K)=>zHq ⟨xi,xl,xr,ep X⟩ xa xn xc X ka kc K W hr rfl HL6.out hq (by omega) (fun p hp=>ak (Lr.out p hp) (by decide)));generalize yT ⟨xi,xl,xr,ep X⟩ (K.map (·.1))=M at *;obtain ⟨M,me⟩:=M;dsimp only at hpl hsm nN ⊢;obtain ⟨VY,O5,VZ,amA⟩:=hsm
   obtain ⟨Ci,Cl,rfl,_⟩:=zH hpl.k.row;obtain ⟨Ak,Al,rfl,_⟩:=zH hpl.n.row;obtain ⟨sL,sM,rfl,_⟩:=zH hpl.r;have KF:=zh hpl.read;have hkl:ks.length=M.eu.length:=by rw[← hpl.kk,xX]
   have hel:es.length=M.needs.length:=by rw[← hpl.nn,aH]
   have Jj:=zh (show ∀ x∈M.eu,x.2.length≤1000000 from fun x hx=>ak (O5 x hx) (by decide));have J2:ks.length≤8:=by omega
   have aco:es.length≤16:=by omega
   have Bl:=zh hkl;have HEl:=zh hel;clear hkl hel VY VZ hb hpl O5 HG fq;go_upto_region 16 with fail;change Code.wp _ _ _ _ (u3.alloc (.cells #[.bool M.ey,.int .i64 (M.res.length:Int),.slice Ci ks.length Cl,.slice Ak es.length Al,.slice sL M.res.length sM] 71));have hb:=(aj u3.heap.size u3).alloc (ag _) (.cells #[.bool M.ey,.int .i64 (M.res.length:Int),.slice Ci ks.length Cl,.slice Ak es.length Al,.slice sL M.res.length sM] 71);have Eu:=zh (dZ.new u3 #[.bool M.ey,.int .i64 (M.res.length:Int),.slice Ci ks.length Cl,.slice Ak es.length Al,.slice sL M.res.length sM] 71);replace HK:=zh (HK.out.below hb);replace BD:=zh (BD.out.below hb);replace oL:=zh (oL.out.below hb);replace KF:=zh (KF.out.below hb);replace iO:=zh (zA iO.out hb);clear hb
   generalize u3.alloc (.cells #[.bool M.ey,.int .i64 (M.res.length:Int),.slice Ci ks.length Cl,.slice Ak es.length Al,.slice sL M.res.length sM] 71)=u4 at *;generalize u3.heap.size=b14 at *;obtain ⟨k0,k1,k2,k3⟩:=(dZ.lF BD.out).q;go_wp2_with fail;refine (nN.out u4 oL.out HK.out).mono ?_;rintro e u5 ⟨kv2,DF,nv2,I2,rv2,rfl,hpl,hb⟩;clear k0 k1 k2 k3 nN;obtain ⟨Cj,Cm,rfl,_⟩:=hpl.k.shape;obtain ⟨Ck,Cn,rfl,_⟩:=hpl.n.shape;obtain ⟨_,By,Bz,rfl,_⟩:=hpl.r;have KH:DF.length=ks.length:=by rw[Bl.out,← hpl.kk,xX]
   have KI:I2.length=es.length:=by rw[HEl.out,← hpl.nn,aH]
   rw[KH,KI] at hpl;rw[KH,KI];have V4:=zh hpl;replace Eu:=zh (Eu.out.below hb);replace KF:=zh (KF.out.below hb);replace iO:=zh (zA iO.out hb);clear hb hpl KH KI HK Lr BD oL;go_upto_region 17 with fail;change Code.wp _ _ _ _ (u5.alloc (.cells #[.bool M.ey,.int .i64 (M.res.length:Int),.slice Cj ks.length Cm,.slice Ck es.length Cn,.slice By M.res.length Bz] 78));have hb:=(aj u5.heap.size u5).alloc (ag _) (.cells #[.bool M.ey,.int .i64 (M.res.length:Int),.slice Cj ks.length Cm,.slice Ck es.length Cn,.slice By M.res.length Bz] 78);have O9:=zh (dZ.new u5 #[.bool M.ey,.int .i64 (M.res.length:Int),.slice Cj ks.length Cm,.slice Ck es.length Cn,.slice By M.res.length Bz] 78);replace Eu:=zh (Eu.out.below hb);replace KF:=zh (KF.out.below hb);replace V4:=zh (V4.out.below hb);replace iO:=zh (zA iO.out hb);clear hb
   generalize u5.alloc (.cells #[.bool M.ey,.int .i64 (M.res.length:Int),.slice Cj ks.length Cm,.slice Ck es.length Cn,.slice By M.res.length Bz] 78)=u6 at *;generalize u5.heap.size=b16 at *;refine wB [eR (.int .i64 me),eR (.int .i64 me),eR (.bool false),eR (.bool false),eR (.agg #[.bool M.ey,.int .i64 (M.res.length:Int),.slice Ci ks.length Cl,.slice Ak es.length Al,.slice sL M.res.length sM]),zMh M M.ey (M.res.length:Int) ks.length ks (.slice Ak es.length Al) es (.slice sL M.res.length sM),eR (.agg #[.bool M.ey,.int .i64 (M.res.length:Int),.slice Cj ks.length Cm,.slice Ck es.length Cn,.slice By M.res.length Bz]),eR (.bool true),eR (.bool false),eR (.bool false)] 87 (by kernel_rfl) (by kernel_rfl) (by kernel_rfl) (by rfl) (by kernel_rfl) (fun f=>by simp[fF,zT,Act.put];exact rfl) ?_ ?_
   ·
    refine ⟨?_,?_,?_,?_,?_,?_,?_,?_,?_,?_,trivial⟩
    ·
     intro f w1 hb hd;clear hd;dsimp only;go_wp2_with fail;exact pS rfl (by simp)
    ·
     intro f w1 hb hd;clear hd;dsimp only;go_wp2_with fail;exact pS rfl (by simp)
    ·
     intro f w1 hb hd;have d0:f 0=(.int .i64 me):=hd 0 (by kernel_rfl);have d1:f 1=(.int .i64 me):=hd 1 (by kernel_rfl);clear hd;dsimp only;rw[d0];rw[d1];go_wp2_with fail;exact pS rfl (by simp)
    ·
     intro f w1 hb hd;have d2:f 2=(.bool false):=hd 2 (by kernel_rfl);clear hd;dsimp only;rw[d2];go_wp2_with fail;exact pS rfl (by simp)
    ·
     intro f w1 hb hd;have d3:f 3=(.bool false):=hd 3 (by kernel_rfl);clear hd;dsimp only;rw[d3];have q0:=(Eu.out.below hb).cell (i:=0) rfl;have q1:=(Eu.out.below hb).cell (i:=1) rfl;have q2:=(Eu.out.below hb).cell (i:=2) rfl;have q3:=(Eu.out.below hb).cell (i:=3) rfl;have q4:=(Eu.out.below hb).cell (i:=4) rfl;go_wp2_with fail;exact pS rfl (by simp)
    ·
     intro f w1 hb hd;have d3:f 3=(.bool false):=hd 3 (by kernel_rfl);have d4:f 4=(.agg #[.bool M.ey,.int .i64 (M.res.length:Int),.slice Ci ks.length Cl,.slice Ak es.length Al,.slice sL M.res.length sM]):=hd 4 (by kernel_rfl);clear hd;dsimp only;rw[d3];rw[d4];go_wp2_with fail;refine (zHx M M.ey (M.res.length:Int) Ci Ak sL Cl es.length Al M.res.length sM ks es w1 (KF.out.below hb) (by omega)).mono ?_;rintro e w9 ⟨ta,tc,rfl,htr,gI⟩;go_wp2_with fail;exact ⟨rfl,gI,fun t ht=>by injection ht with ht;subst ht;exact ⟨⟨ta,tc,rfl,htr⟩,fun h=>by simp at h⟩⟩
    ·
     intro f w1 hb hd;have d3:f 3=(.bool false):=hd 3 (by kernel_rfl);clear hd;dsimp only;rw[d3];have q0:=(O9.out.below hb).cell (i:=0) rfl;have q1:=(O9.out.below hb).cell (i:=1) rfl;have q2:=(O9.out.below hb).cell (i:=2) rfl;have q3:=(O9.out.below hb).cell (i:=3) rfl;have q4:=(O9.out.below hb).cell (i:=4) rfl;go_wp2_with fail;exact pS rfl (by simp)
    ·
     intro f w1 hb hd;have d3:f 3=(.bool false):=hd 3 (by kernel_rfl);obtain ⟨a5,c5,d5,r5⟩:=show ∃ a c,f 5=.agg #[.bool M.ey,.int .i64 (M.res.length:Int),.slice a ks.length c,.slice Ak es.length Al,.slice sL M.res.length sM]∧jY w1 M (.slice a ks.length c) ks (.slice Ak es.length Al) es (.slice sL M.res.length sM) from hd 5 (by kernel_rfl);have d6:f 6=(.agg #[.bool M.ey,.int .i64 (M.res.length:Int),.slice Cj ks.length Cm,.slice Ck es.length Cn,.slice By M.res.length Bz]):=hd 6 (by kernel_rfl);clear hd;dsimp only;rw[d3];rw[d5];rw[d6];go_wp2_with fail;refine (zJj M (M.res.length:Int) a5 Cj Ak Ck sL By c5 Cm Al Cn sM Bz ks.length es.length M.res.length ks DF es I2 w1 r5 (V4.out.below hb) (by omega) Jj.out (by omega) (by omega)).mono ?_;rintro e w9 ⟨rfl,gI⟩;go_wp2_with fail;exact pT rfl (by simp) gI
    ·
     intro f w1 hb hd;have d3:f 3=(.bool false):=hd 3 (by kernel_rfl);have d7:f 7=(.bool true):=hd 7 (by kernel_rfl);clear hd;dsimp only;rw[d3];rw[d7];go_wp2_with fail;exact pS rfl (by simp)
    intro f w1 hb hd;have d3:f 3=(.bool false):=hd 3 (by kernel_rfl);have d8:f 8=(.bool false):=hd 8 (by kernel_rfl);clear hd;dsimp only;rw[d3];rw[d8];go_wp2_with fail;exact pS rfl (by simp)
   intro f w5 hb hA;have d9:f 9=.bool false:=hA 9 (show 9<10 by decide);clear hA
   try dsimp only
   rw[d9];clear d9;replace iO:=zh (zA iO.out hb);clear hb;generalize f 0=z0,f 1=z1,f 2=z2,f 3=z3,f 4=z4,f 5=z5,f 6=z6,f 7=z7,f 8=z8;clear f;go_wp2_with fail;exact ⟨⟨j+1,by go_num,by omega,iO⟩,by simp[intOf];omega⟩
  have j2:¬ (j:Int)<2:=by omega
  replace jT:=zh (zA jT.out iO.out);clear iO O4;go_wp2_with fail;exact ⟨⟨k+1,by go_num,by omega,jT⟩,by simp[intOf];omega⟩
 have j1:¬ (k:Int)<2:=by omega
 clear AW;replace HB:=zh (zA HB.out jT.out);clear jT;go_wp2_with fail;refine (QW.out _).mono ?_;rintro e w2 ⟨rfl,hb⟩;have eD:=zh (zA HB.out hb);clear hb;go_wp2_with fail;go_ret;exact ⟨rfl,eD.out⟩
end Go.Proofs.YtcgfilmmokmdjaaGreat
namespace Go.Proofs.YtcgfilmmokmdjaaGreat
open Go.RowKit Go.ChangeShapes Go.WideShapes Go.Deep
theorem zKE:∃ f0 f1 f2 f3,Tryz.prog.underlying 49=some (.struct #[f0,f1,f2,f3])∧(f0.offset=0∧f1.offset=1∧f2.offset=2∧f3.offset=3)∧f0.type=24∧f1.type=47∧f2.type=2∧f3.type=3:=
 ⟨_,_,_,_,Tryz.underlying49,⟨rfl,rfl,rfl,rfl⟩,rfl,rfl,rfl,rfl⟩
theorem zEB:Tryz.prog.cellsOf 49=4:=by kernel_rfl
theorem tX:Tryz.prog.cellsOf 24=1:=by kernel_rfl
theorem tM:Tryz.prog.cellsOf 47=1:=by kernel_rfl
theorem wD:Tryz.prog.cellsOf 2=1:=by kernel_rfl
theorem zDu:Tryz.prog.cellsOf 3=1:=by kernel_rfl
section
variable {H:Type} {enc:TypeId×Value→H} {w:World}
theorem yW {cs:List Value} {i:Nat} {u:Value} (h:(cs.drop i).take 1=[u]):cs[i]?=some u:=by
 have h1:((cs.drop i).take 1)[0]?=some u:=by rw[h];rfl
 rw[cH,ah (by decide),cQ,bB] at h1;exact h1
theorem zHv {fuel:Nat} {cs:List Value} {x:DataW H×List MemPlace} (h:DataW.trod enc Tryz.prog w 0 (fun _=>true) true fuel 49 cs=some x):∃ y:It,cs=iC y∧y.Wf:=by
 obtain ⟨f0,f1,f2,f3,hs,⟨o0,o1,o2,o3⟩,t0,t1,t2,t3⟩:=zKE;obtain ⟨xs,n,_,_,hlen,hxl,hf⟩:=dR hs h;rw[zEB] at hlen;have hx:xs.length=4:=by simpa using hxl
 have g:∀ j (hj:j<4),xs[j]?=some (xs[j]'(by omega)):=fun j hj=>aB (by omega)
 have h0:=(hf 0 f0 rfl).trans (g 0 (by omega));have h1:=(hf 1 f1 rfl).trans (g 1 (by omega));have h2:=(hf 2 f2 rfl).trans (g 2 (by omega));have h3:=(hf 3 f3 rfl).trans (g 3 (by omega));rw[t0,o0,tX] at h0;rw[t1,o1,tM] at h1;rw[t2,o2,wD] at h2;rw[t3,o3,zDu] at h3;obtain ⟨k,e0,_,w0⟩:=bH Tryz.underlying24 h0;obtain ⟨c,e1,_,w1⟩:=bH Tryz.underlying47 h1;obtain ⟨o,e2,_,w2⟩:=bH Tryz.underlying2 h2;obtain ⟨s,e3,_,w3⟩:=bH Tryz.underlying3 h3;have d0:=yW e0;have d1:=yW e1;have d2:=yW e2;have d3:=yW e3;have b0:=uN w0;have b1:=uS w1;have b2:=yy w2;have b3:=yy w3;refine ⟨⟨k,c,o,s⟩,?_,show 0≤k∧k<18446744073709551616∧0≤c∧c<4294967296∧-9223372036854775808≤o∧o≤9223372036854775807∧-9223372036854775808≤s∧s≤9223372036854775807 by omega⟩
 match cs,hlen,d0,d1,d2,d3 with
 |[a,b,c',d],_,d0,d1,d2,d3 =>
  simp at d0 d1 d2 d3;subst d0 d1 d2 d3
  rfl
theorem zFS {a:Option Addr} {n cap:Nat} {d:DataW H} {p:List MemPlace} (h:DataW.Trod enc Tryz.prog w 0 (fun _=>true) true 33 (.slice a n cap) d p) :
  ∃ l:List It,ja w (.slice a n cap) l∧∀ x∈l,x.Wf:=by
 obtain ⟨fuel,hf⟩:=h;rcases open_slice Tryz.underlying33 hf with ⟨hcs,_⟩|⟨x,len,cap',m,k,D,Pl,hcs,_,hl,hm,hmm,_,hx⟩
 ·
  simp[Value.cells] at hcs;obtain ⟨rfl,rfl,rfl⟩:=hcs;exact ⟨[],iN.nil 4 iC w,fun e he=>by cases he⟩
 simp[Value.cells] at hcs;obtain ⟨rfl,rfl,rfl⟩:=hcs;simp only[if_true] at hmm;subst hmm;rw[zEB] at hx;have each:∀ i,i<n→∃ y:It,(∀ j,j<4→w.cell? (x.add (i*4+j))=(iC y)[j]?)∧y.Wf:=fun i hi=>by
  obtain ⟨cs',h1,h2⟩:=hx i (by omega);obtain ⟨y,rfl,hy⟩:=zHv h2;obtain ⟨_,_,hc⟩:=World.cells?_some h1;exact ⟨y,fun j hj=>by rw[← hc j hj,Go.Deep.add_add],hy⟩
 obtain ⟨E,hE⟩:=choose_lt each;refine ⟨(List.range n).map E,yh (n:=n) ⟨by rw[zy];simp,some x,m,by simp,by simpa using hl,hm,fun h=>by simp at h,fun hp=>?_⟩,fun e he=>?_⟩
 ·
  have hn:0<n:=by
   rw[zy] at hp;simp at hp;omega
  obtain ⟨b,off,spot⟩:=x;have hspot:spot=none:=by
   have h0:w.cell? ((⟨b,off,spot⟩:Addr).add (0*4+0))=some (.int .u64 (E 0).key):=((hE 0 hn).1 0 (by omega)).trans rfl
   simpa [Addr.add] using World.cell?_spot h0
  subst hspot;refine ⟨b,off,rfl,fun j u hj=>?_⟩;have hjl:j<n*4:=by
   have:=(List.getElem?_eq_some_iff.1 hj).1;rw[zy] at this
   simpa using this
  have hat:=vW 4 iC fE ((List.range n).map E) (fun _ _=>rfl) (j/4) (j%4) (by simp;omega) (by omega);rw[show j/4*4+j%4=j by omega] at hat;have hg:((List.range n).map E).getD (j/4) fE=E (j/4):=by
   rw[ax,b_,List.getElem?_range (by omega)];rfl
  rw[hg] at hat;have hc:=(hE (j/4) (by omega)).1 (j%4) (by omega);rw[show j/4*4+j%4=j by omega,yM] at hc;rw[hc,← hat];exact hj
 obtain ⟨i,hi,rfl⟩:=List.mem_map.1 he;exact (hE i (List.mem_range.1 hi)).2
end
end Go.Proofs.YtcgfilmmokmdjaaGreat
namespace Go.Proofs.YtcgfilmmokmdjaaGreat
open Go.RowKit Go.ChangeShapes Go.WideShapes Go.Deep
end Go.Proofs.YtcgfilmmokmdjaaGreat
namespace Go.Proofs.YtcgfilmmokmdjaaGreat
open Go.RowKit Go.ChangeShapes Go.WideShapes Go.Deep
theorem zBz:Tryz.prog.cellsOf 33=1:=by kernel_rfl
theorem zC5:Tryz.prog.cellsOf 34=8:=by kernel_rfl
theorem zAa:Tryz.prog.cellsOf 111=10:=by kernel_rfl
theorem zKk:∃ f0 f1 f2,Tryz.prog.underlying 111=some (.struct #[f0,f1,f2])∧(f0.offset=0∧f1.offset=8∧f2.offset=9)∧f0.type=34∧f1.type=2∧f2.type=2:=
 ⟨_,_,_,Tryz.underlying111,⟨rfl,rfl,rfl⟩,rfl,rfl,rfl⟩
section
variable {H:Type} {enc:TypeId×Value→H} {w:World}
theorem zDq {fuel:Nat} {cs:List Value} {x:DataW H×List MemPlace} (h:DataW.trod enc Tryz.prog w 0 (fun _=>true) true fuel 33 cs=some x) :
  ∃ y:Option Addr×Nat×Nat×List It,cs=[.slice y.1 y.2.1 y.2.2.1]∧ja w (.slice y.1 y.2.1 y.2.2.1) y.2.2.2∧∀ x∈y.2.2.2,x.Wf:=by
 have key:∀ a n c,cs=[.slice a n c]→∃ y:Option Addr×Nat×Nat×List It,cs=[.slice y.1 y.2.1 y.2.2.1]∧ja w (.slice y.1 y.2.1 y.2.2.1) y.2.2.2∧∀ x∈y.2.2.2,x.Wf:=fun a n c e=>by
  subst e;obtain ⟨l,h1,h2⟩:=zFS (a:=a) (n:=n) (cap:=c) (d:=x.1) (p:=x.2) ⟨fuel,h⟩;exact ⟨(a,n,c,l),rfl,h1,h2⟩
 rcases DataW.trod_slice Tryz.underlying33 h with ⟨e,_⟩|⟨a,len,cap,_,_,_,_,e,_⟩
 ·
  exact key _ _ _ e
 exact key _ _ _ e
theorem open_map {fuel:Nat} {cs:List Value} {x:DataW H×List MemPlace} (h:DataW.trod enc Tryz.prog w 0 (fun _=>true) true fuel 111 cs=some x) :
  ∃ (s:Sl) (M:Mp),cs=(yj s M.live M.d_).toList∧fG w s M.st∧(∀ i,i<8→∀ x∈M.st i,x.Wf)∧(-9223372036854775808≤M.live∧M.live≤9223372036854775807)∧(-9223372036854775808≤M.d_∧M.d_≤9223372036854775807):=by
 obtain ⟨f0,f1,f2,hs,⟨o0,o1,o2⟩,t0,t1,t2⟩:=zKk;obtain ⟨xs,n,_,_,hlen,hxl,hf⟩:=dR hs h;rw[zAa] at hlen;have hx:xs.length=3:=by simpa using hxl
 have g:∀ j (hj:j<3),xs[j]?=some (xs[j]'(by omega)):=fun j hj=>aB (by omega)
 have h0:=(hf 0 f0 rfl).trans (g 0 (by omega));have h1:=(hf 1 f1 rfl).trans (g 1 (by omega));have h2:=(hf 2 f2 rfl).trans (g 2 (by omega));rw[t0,o0,zC5,List.drop_zero] at h0;rw[t1,o1,wD] at h1;rw[t2,o2,wD] at h2;obtain ⟨L,e1,_,w1⟩:=bH Tryz.underlying2 h1;obtain ⟨G,e2,_,w2⟩:=bH Tryz.underlying2 h2;obtain ⟨ys,m,_,_,_,pj,hy⟩:=DataW.trod_array Tryz.underlying34 h0;have each:∀ i,i<8→∃ y:Option Addr×Nat×Nat×List It,((cs.take 8).drop i).take 1=[.slice y.1 y.2.1 y.2.2.1]∧ja w (.slice y.1 y.2.1 y.2.2.1) y.2.2.2∧∀ x∈y.2.2.2,x.Wf:=fun i hi=>by
  have h3:=hy i hi;rw[zBz,Nat.mul_one,aB (by omega)] at h3;exact zDq h3
 obtain ⟨E,hE⟩:=choose_lt each;refine ⟨⟨fun i=>(E i).1,fun i=>(E i).2.1,fun i=>(E i).2.2.1⟩,⟨fun i=>(E i).2.2.2,L,G⟩,?_,fun i hi=>(hE i hi).2.1,fun i hi=>(hE i hi).2.2,yy w1,yy w2⟩;have d8:=yW e1;have d9:=yW e2;have d:∀ i,i<8→cs[i]?=some (.slice (E i).1 (E i).2.1 (E i).2.2.1):=fun i hi=>by
  have:=yW (hE i hi).1;rw[cH,ah hi] at this;exact this
 have d0:=d 0 (by omega);have d1:=d 1 (by omega);have d2:=d 2 (by omega);have d3:=d 3 (by omega);have d4:=d 4 (by omega);have d5:=d 5 (by omega);have d6:=d 6 (by omega);have d7:=d 7 (by omega);clear d hE each hy hf
 match cs,hlen,d0,d1,d2,d3,d4,d5,d6,d7,d8,d9 with
 |[a0,a1,a2,a3,a4,a5,a6,a7,a8,a9],_,d0,d1,d2,d3,d4,d5,d6,d7,d8,d9 =>
  simp at d0 d1 d2 d3 d4 d5 d6 d7 d8 d9;subst d0 d1 d2 d3 d4 d5 d6 d7 d8 d9
  rfl
end
end Go.Proofs.YtcgfilmmokmdjaaGreat
namespace Go.Proofs.YtcgfilmmokmdjaaGreat
open Go.RowKit Go.ChangeShapes Go.WideShapes Go.Deep
theorem zIa (w:World):nC w (.slice none 0 0) []:=⟨zk (aT w 0 56 4),fun p hp=>by cases hp⟩
theorem zKg:∃ f0 f1 f2 f3,Tryz.prog.underlying 56=some (.struct #[f0,f1,f2,f3])∧(f0.offset=0∧f1.offset=1∧f2.offset=2∧f3.offset=3)∧f0.type=24∧f1.type=47∧f2.type=4∧f3.type=54:=
 ⟨_,_,_,_,Tryz.underlying56,⟨rfl,rfl,rfl,rfl⟩,rfl,rfl,rfl,rfl⟩
theorem zEh:Tryz.prog.cellsOf 56=4:=by kernel_rfl
theorem kT:Tryz.prog.cellsOf 4=1:=by kernel_rfl
theorem qY:Tryz.prog.cellsOf 54=1:=by kernel_rfl
section
variable {H:Type} {enc:TypeId×Value→H} {w:World}
theorem zAx {fuel:Nat} {cs:List Value} {x:DataW H×List MemPlace} (h:DataW.trod enc Tryz.prog w 0 (fun _=>true) true fuel 54 cs=some x):∃ (v:Value) (l:List UInt8),cs=[v]∧rB w v l:=by
 rcases open_ints Tryz.underlying54 Tryz.underlying5 (by kernel_rfl) h with ⟨hcs,_⟩|⟨x,l,c,zs,hcs,_,hl,hm,hz,_,hcell,V8⟩
 ·
  exact ⟨_,[],hcs,YR w⟩
 obtain ⟨r,_,hr⟩:=zED (w:=w) (a:=some x) (len:=l) (cap:=c) (zs:=zs) (.inr ⟨_,rfl,hl,hm,by simpa using hz,hcell,V8⟩);exact ⟨_,r,hcs,hr⟩
theorem zG7 {fuel:Nat} {cs:List Value} {x:DataW H×List MemPlace} (h:DataW.trod enc Tryz.prog w 0 (fun _=>true) true fuel 56 cs=some x):∃ y:Nd×Value,cs=vK y∧y.1.Wf∧rB w y.2 y.1.data:=by
 obtain ⟨f0,f1,f2,f3,hs,⟨o0,o1,o2,o3⟩,t0,t1,t2,t3⟩:=zKg;obtain ⟨xs,n,_,_,hlen,hxl,hf⟩:=dR hs h;rw[zEh] at hlen;have hx:xs.length=4:=by simpa using hxl
 have g:∀ j (hj:j<4),xs[j]?=some (xs[j]'(by omega)):=fun j hj=>aB (by omega)
 have h0:=(hf 0 f0 rfl).trans (g 0 (by omega));have h1:=(hf 1 f1 rfl).trans (g 1 (by omega));have h2:=(hf 2 f2 rfl).trans (g 2 (by omega));have h3:=(hf 3 f3 rfl).trans (g 3 (by omega));rw[t0,o0,tX] at h0;rw[t1,o1,tM] at h1;rw[t2,o2,kT] at h2;rw[t3,o3,qY] at h3;obtain ⟨k,e0,_,w0⟩:=bH Tryz.underlying24 h0;obtain ⟨c,e1,_,w1⟩:=bH Tryz.underlying47 h1;obtain ⟨d,e2,_⟩:=DataW.trod_bool Tryz.underlying4 h2;obtain ⟨v,l,e3,hr⟩:=zAx h3;have d0:=yW e0;have d1:=yW e1;have d2:=yW e2;have d3:=yW e3;have b0:=uN w0;have b1:=uS w1;obtain ⟨k,rfl⟩:=dV b0.1;obtain ⟨c,rfl⟩:=dV b1.1;refine ⟨(⟨k,c,d,l⟩,v),?_,show k<18446744073709551616∧c<4294967296 by omega,hr⟩
 match cs,hlen,d0,d1,d2,d3 with
 |[a,b,c',d],_,d0,d1,d2,d3 =>
  simp at d0 d1 d2 d3;subst d0 d1 d2 d3
  rfl
theorem zFr {a:Option Addr} {n cap:Nat} {d:DataW H} {p:List MemPlace} (h:DataW.Trod enc Tryz.prog w 0 (fun _=>true) true 23 (.slice a n cap) d p) :
  ∃ l:List (Nd×Value),nC w (.slice a n cap) l∧∀ x∈l,x.1.Wf:=by
 obtain ⟨fuel,hf⟩:=h;rcases open_slice Tryz.underlying23 hf with ⟨hcs,_⟩|⟨x,len,cap',m,k,D,Pl,hcs,_,hl,hm,hmm,_,hx⟩
 ·
  simp[Value.cells] at hcs;obtain ⟨rfl,rfl,rfl⟩:=hcs;exact ⟨[],zIa w,fun e he=>by cases he⟩
 simp[Value.cells] at hcs;obtain ⟨rfl,rfl,rfl⟩:=hcs;simp only[if_true] at hmm;subst hmm;rw[zEh] at hx
 haveI:Inhabited (Nd×Value):=⟨(KO,.slice none 0 0)⟩
 have each:∀ i,i<n→∃ y:Nd×Value,(∀ j,j<4→w.cell? (x.add (i*4+j))=(vK y)[j]?)∧y.1.Wf∧rB w y.2 y.1.data:=fun i hi=>by
  obtain ⟨cs',h1,h2⟩:=hx i (by omega);obtain ⟨y,rfl,hy⟩:=zG7 h2;obtain ⟨_,_,hc⟩:=World.cells?_some h1;exact ⟨y,fun j hj=>by rw[← hc j hj,Go.Deep.add_add],hy⟩
 obtain ⟨E,hE⟩:=choose_lt each;refine ⟨(List.range n).map E,⟨?_,fun e he=>?_⟩,fun e he=>?_⟩
 ·
  rw[aH,List.length_range];refine ⟨by rw[wu];simp,some x,m,by simp,by simpa using hl,hm,fun h=>by simp at h,fun hp=>?_⟩;have hn:0<n:=by
   rw[wu] at hp;simp at hp;omega
  obtain ⟨b,off,spot⟩:=x;have hspot:spot=none:=by
   have h0:w.cell? ((⟨b,off,spot⟩:Addr).add (0*4+0))=some (.int .u64 ((E 0).1.key:Int)):=((hE 0 hn).1 0 (by omega)).trans rfl
   simpa [Addr.add] using World.cell?_spot h0
  subst hspot;refine ⟨b,off,rfl,fun j u hj=>?_⟩;have hjl:j<n*4:=by
   have:=(List.getElem?_eq_some_iff.1 hj).1;rw[wu] at this
   simpa using this
  have hat:=vW 4 vK (KO,.slice none 0 0) ((List.range n).map E) (fun _ _=>rfl) (j/4) (j%4) (by simp;omega) (by omega);rw[show j/4*4+j%4=j by omega] at hat;have hg:((List.range n).map E).getD (j/4) (KO,.slice none 0 0)=E (j/4):=by
   rw[ax,b_,List.getElem?_range (by omega)];rfl
  rw[hg] at hat;have hc:=(hE (j/4) (by omega)).1 (j%4) (by omega);rw[show j/4*4+j%4=j by omega,yM] at hc;rw[hc,← hat];exact hj
 ·
  obtain ⟨i,hi,rfl⟩:=List.mem_map.1 he;exact (hE i (List.mem_range.1 hi)).2.2
 obtain ⟨i,hi,rfl⟩:=List.mem_map.1 he;exact (hE i (List.mem_range.1 hi)).2.1
end
theorem zAc:Tryz.prog.cellsOf 113=14:=by kernel_rfl
theorem wF:Tryz.prog.cellsOf 3=1:=by kernel_rfl
theorem zKS:∃ f0 f1 f2 f3 f4,Tryz.prog.underlying 113=some (.struct #[f0,f1,f2,f3,f4])∧(f0.offset=0∧f1.offset=1∧f2.offset=2∧f3.offset=3∧f4.offset=4)∧f0.type=3∧f1.type=2∧f2.type=3∧f3.type=2∧f4.type=111:=
 ⟨_,_,_,_,_,Tryz.underlying113,⟨rfl,rfl,rfl,rfl,rfl⟩,rfl,rfl,rfl,rfl,rfl⟩
section
variable {H:Type} {enc:TypeId×Value→H} {w:World}
structure KJ (g:Gn):Prop where
 num:-9223372036854775808≤g.num∧g.num≤9223372036854775807
 rev:-9223372036854775808≤g.rev∧g.rev≤9223372036854775807
 mode:-9223372036854775808≤g.mode∧g.mode≤9223372036854775807
 size:-9223372036854775808≤g.size∧g.size≤9223372036854775807
 live:-9223372036854775808≤g.m.live∧g.m.live≤9223372036854775807
 d_:-9223372036854775808≤g.m.d_∧g.m.d_≤9223372036854775807
 its:∀ i,i<8→∀ x∈g.m.st i,x.Wf
theorem zJ9 {fuel:Nat} {cs:List Value} {x:DataW H×List MemPlace} (h:DataW.trod enc Tryz.prog w 0 (fun _=>true) true fuel 113 cs=some x) :
  ∃ (s:Sl) (g:Gn),cs=(zX g.num g.rev g.mode g.size s g.m.live g.m.d_).toList∧fG w s g.m.st∧KJ g:=by
 obtain ⟨f0,f1,f2,f3,f4,hs,⟨o0,o1,o2,o3,o4⟩,t0,t1,t2,t3,t4⟩:=zKS;obtain ⟨xs,n,_,_,hlen,hxl,hf⟩:=dR hs h;rw[zAc] at hlen;have hx:xs.length=5:=by simpa using hxl
 have g:∀ j (hj:j<5),xs[j]?=some (xs[j]'(by omega)):=fun j hj=>aB (by omega)
 have h0:=(hf 0 f0 rfl).trans (g 0 (by omega));have h1:=(hf 1 f1 rfl).trans (g 1 (by omega));have h2:=(hf 2 f2 rfl).trans (g 2 (by omega));have h3:=(hf 3 f3 rfl).trans (g 3 (by omega));have h4:=(hf 4 f4 rfl).trans (g 4 (by omega));rw[t0,o0,wF] at h0;rw[t1,o1,wD] at h1;rw[t2,o2,wF] at h2;rw[t3,o3,wD] at h3;rw[t4,o4,zAa] at h4;obtain ⟨k0,e0,_,w0⟩:=bH Tryz.underlying3 h0;obtain ⟨k1,e1,_,w1⟩:=bH Tryz.underlying2 h1;obtain ⟨k2,e2,_,w2⟩:=bH Tryz.underlying3 h2;obtain ⟨k3,e3,_,w3⟩:=bH Tryz.underlying2 h3;obtain ⟨s,M,e4,hr,hi,hl,hg⟩:=open_map h4;have d0:=yW e0;have d1:=yW e1;have d2:=yW e2;have d3:=yW e3;refine ⟨s,⟨k0,k1,k2,k3,M⟩,?_,hr,⟨yy w0,yy w1,yy w2,yy w3,hl,hg,hi⟩⟩;clear hf h0 h1 h2 h3 h4 hr hi hl hg e0 e1 e2 e3
 match cs,hlen,d0,d1,d2,d3,e4 with
 |[a0,a1,a2,a3,a4,a5,a6,a7,a8,a9,K2,Uz,a12,a13],_,d0,d1,d2,d3,e4 =>
  simp at d0 d1 d2 d3 e4;obtain ⟨rfl,rfl,rfl,rfl,rfl,rfl,rfl,rfl,rfl,rfl⟩:=e4;subst d0 d1 d2 d3
  rfl
end
end Go.Proofs.YtcgfilmmokmdjaaGreat
namespace Go.Proofs.YtcgfilmmokmdjaaGreat
open Go.RowKit Go.ChangeShapes Go.WideShapes Go.Deep
theorem k7 {H:Type} {enc:TypeId×Value→H} {w:World} {α:Type} (z:α) {t e:TypeId} {sz:Nat} (f:α→List Value) (Q:α→Prop) (hu:Tryz.prog.underlying t=some (.slice e)) (hc:Tryz.prog.cellsOf e=sz) (hf:∀ x,(f x).length=sz) (hz:0<sz)
  (one:∀ fuel cs x,DataW.trod enc Tryz.prog w 0 (fun _=>true) true fuel e cs=some x→∃ y,cs=f y∧Q y)
  {a:Option Addr} {n cap:Nat} {d:DataW H} {p:List MemPlace} (h:DataW.Trod enc Tryz.prog w 0 (fun _=>true) true t (.slice a n cap) d p) :
  ∃ l:List α,iN sz f w (.slice a n cap) l∧∀ x∈l,Q x:=by
 obtain ⟨fuel,hfu⟩:=h;rcases open_slice hu hfu with ⟨hcs,_⟩|⟨x,len,cap',m,k,D,Pl,hcs,_,hl,hm,hmm,_,hx⟩
 ·
  simp[Value.cells] at hcs;obtain ⟨rfl,rfl,rfl⟩:=hcs;exact ⟨[],iN.nil sz f w,fun e he=>by cases he⟩
 simp[Value.cells] at hcs;obtain ⟨rfl,rfl,rfl⟩:=hcs;simp only[if_true] at hmm;subst hmm;rw[hc] at hx
 haveI:Inhabited α:=⟨z⟩
 have each:∀ i,i<n→∃ y:α,(∀ j,j<sz→w.cell? (x.add (i*sz+j))=(f y)[j]?)∧Q y:=fun i hi=>by
  obtain ⟨cs',h1,h2⟩:=hx i (by omega);obtain ⟨y,rfl,hy⟩:=one _ _ _ h2;obtain ⟨_,_,hc⟩:=World.cells?_some h1;exact ⟨y,fun j hj=>by rw[← hc j hj,Go.Deep.add_add],hy⟩
 obtain ⟨E,hE⟩:=choose_lt each;have hfl:=yR sz f ((List.range n).map E) (fun x _=>hf x);refine ⟨(List.range n).map E,⟨fun x _=>hf x,?_⟩,fun e he=>?_⟩
 ·
  rw[aH,List.length_range];rw[aH,List.length_range] at hfl;refine ⟨hfl,some x,m,by simp,by simpa using hl,hm,fun h=>by simp at h,fun hp=>?_⟩;have hn:0<n:=by
   rw[hfl] at hp;exact Nat.pos_of_mul_pos_right hp
  obtain ⟨b,off,spot⟩:=x;have hspot:spot=none:=by
   have h0:=(hE 0 hn).1 0 hz;rw[aB (by rw[hf];exact hz)] at h0
   simpa [Addr.add] using World.cell?_spot h0
  subst hspot;refine ⟨b,off,rfl,fun j u hj=>?_⟩;have hjl:j<n*sz:=by
   have:=(List.getElem?_eq_some_iff.1 hj).1;rw[hfl] at this;exact this
  have V_:j/sz<n:=(Nat.div_lt_iff_lt_mul hz).2 hjl;have hjm:j%sz<sz:=Nat.mod_lt _ hz;have hat:=vW sz f z ((List.range n).map E) (fun x _=>hf x) (j/sz) (j%sz) (by simpa using V_) hjm;have hjj:j/sz*sz+j%sz=j:=by rw[Nat.mul_comm];exact Nat.div_add_mod j sz
  rw[hjj] at hat;have hg:((List.range n).map E).getD (j/sz) z=E (j/sz):=by
   rw[ax,b_,List.getElem?_range V_];rfl
  rw[hg] at hat;have hc:=(hE (j/sz) V_).1 (j%sz) hjm;rw[hjj,yM] at hc;rw[hc,← hat];exact hj
 obtain ⟨i,hi,rfl⟩:=List.mem_map.1 he;exact (hE i (List.mem_range.1 hi)).2
end Go.Proofs.YtcgfilmmokmdjaaGreat
