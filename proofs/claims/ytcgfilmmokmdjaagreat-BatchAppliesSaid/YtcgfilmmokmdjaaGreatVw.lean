import Derived.Test.YtcgfilmmokmdjaaGreatVv
set_option linter.all false
set_option maxRecDepth 100000
set_option maxHeartbeats 32000000
namespace Go.Proofs.YtcgfilmmokmdjaaGreat
open Go.Proofs.Tryz
open Go.RowKit
def VW:∀ {a b:Bool},a≠b->(a=true/\b=false)∨(a=false/\b=true):=by decide
def zGk (i l:Int) (r:Bool) (a:Option Addr) (n c:Nat) (w:World) (hA:0<=i/\i<4/\4136<=l/\l<=262144) (hn:n<1∨8<n) :
  Calls prog 47 #[zQ i l r a n c] w fun e w'=>e=.returned (.bool false)/\Below w.heap.size w w':=by
 have HZ:=zh (fun W=>VU W);have eO:=zh (fp.new w i l r a n c 27);have eP:=zh (zR w i l r a n c 27);obtain ⟨h1,h2,h3,h4⟩:=hA
 go_enter func47,ntmps47
 go_upto_region 1 with fail;obtain ⟨W,hW⟩:∃ W,w.alloc (.cells (zM i l r a n c) 27)=W:=⟨_,rfl⟩
 change Code.wp _ _ _ _ (w.alloc (.cells (zM i l r a n c) 27));rw[hW] at eO eP |-;have pH:=eO.o.lt;have k0:=zB eO.o.c0;have k1:=zB eO.o.c1;clear hW;have e1:decide (i<0)=false:=by simp;omega
 have e2:decide (4<=i)=false:=by simp;omega
 have e3:decide (l<4136)=false:=by simp;omega
 have e4:decide (262144<l)=false:=by simp;omega
 refine zD (by kernel_rfl) (by kernel_rfl) ?_
 repeat (go_big_quiet_step ((exact zH (HZ.o _))))
 refine ay ?_;intro _ hw';obtain ⟨q,hw'⟩:=hw';subst hw';have HQ:=zh (zA eP.o q.h);have HX:=zh (eO.o.bb q.h);generalize q.w'=w1 at *;have k3:=HX.o.c3;clear k0 k1 e1 e2 e3 e4 HZ eO eP;rcases hn with h|h
 ·have e5:decide ((n:Int)<1)=true:=by simp;omega
  go_wp2_with fail;go_ret;exact ⟨rfl,HQ.o⟩
 have e5:decide ((n:Int)<1)=false:=by simp;omega
 have e6:decide ((8:Int)<(n:Int))=true:=by simp;omega
 go_wp2_with fail;go_ret;exact ⟨rfl,HQ.o⟩
def zGi (i l:Int) (r:Bool) (a:Option Addr) (n c:Nat) (L:List GP) (w:World) (hA:0<=i/\i<4/\4136<=l/\l<=262144) (hn:1<=n/\n<=8)
  (h:fB w (.slice a n c) L) (hs:∀ p∈L,∀ j,j<8->(p.1.m.st j).length<=10000) :
  Calls prog 47 #[zQ i l r a n c] w fun e w'=>e=.returned (.bool (zb ⟨i,l,r,ey L⟩))/\Below w.heap.size w w':=by
 have HZ:=zh (fun W=>VU W);have LI:=zh (fun W=>zNx W);have eO:=zh (fp.new w i l r a n c 27);have eP:=zh (zR w i l r a n c 27);have fT:L.length=n:=by
  obtain ⟨_,_,e,_⟩:=h.shape;injection e with _ e _;exact e.symm
 have HR:=zh h;have HS:=zh hs;have jJ:=zh fT;have lh:=zh (fun k (hk:k<n) (h:¬ DY ⟨i,l,r,ey L⟩ k)=>zDX (s:=⟨i,l,r,ey L⟩) (by show k<(ey L).length;rw[zk,fT];exact hk) h)
 have l5:=zh (fun (h:∀ k,k<n->DY ⟨i,l,r,ey L⟩ k)=>show zb ⟨i,l,r,ey L⟩=decide ((pat L (n-1)).1.size+(((zN (pat L (n-1)).1.m).length*24:Nat):Int)<=2*l) from by
  rw[dt,zX,aR]
  have hl:(ey L).length=n:=by rw[zk,fT]
  constructor
  ·intro h
   have:=h.top
   simp only[yj,hl] at this
   exact this
  intro ht
  refine ⟨⟨hA.1,hA.2.1⟩,hA.2.2,by rw[hl];exact hn,fun k hk=>h k (by rw[hl] at hk;exact hk),?_⟩
  simp only[yj,hl]
  exact ht)
 have pI:=zh (fun k=>show DY ⟨i,l,r,ey L⟩ k↔(we (pat L k).1=true/\(0<k->(pat L (k-1)).1.num<(pat L k).1.num)/\((pat L k).1.mode=1↔k+1=n)/\(pat L k).1.size<=2*l) from by
  unfold DY
  simp only[yj,zk,fT])
 generalize zb ⟨i,l,r,ey L⟩=res at *;generalize hok:DY ⟨i,l,r,ey L⟩=ok at *;clear hok;obtain ⟨h1,h2,h3,h4⟩:=hA;obtain ⟨EB,oA⟩:=hn;clear h hs fT
 go_enter func47,ntmps47
 go_upto_region 1 with fail;obtain ⟨W,hW⟩:∃ W,w.alloc (.cells (zM i l r a n c) 27)=W:=⟨_,rfl⟩
 change Code.wp _ _ _ _ (w.alloc (.cells (zM i l r a n c) 27));rw[hW] at eO eP |-;have pH:=eO.o.lt;have k0:=zB eO.o.c0;have k1:=zB eO.o.c1;clear hW;have e1:decide (i<0)=false:=by simp;omega
 have e2:decide (4<=i)=false:=by simp;omega
 have e3:decide (l<4136)=false:=by simp;omega
 have e4:decide (262144<l)=false:=by simp;omega
 refine zD (by kernel_rfl) (by kernel_rfl) ?_
 repeat (go_big_quiet_step ((exact zH (HZ.o _))))
 refine ay ?_;intro _ hw';obtain ⟨q,hw'⟩:=hw';subst hw';have HQ:=zh (zA eP.o q.h);have HX:=zh (eO.o.bb q.h);generalize q.w'=w1 at *;have k3:=HX.o.c3;clear k0 k1 e1 e2 e3 e4 HZ eO eP;have LJ:=HX.o.lt;have fL:=zh (HR.o.bb HQ.o);have e5:decide ((n:Int)<1)=false:=by simp;omega
 have e6:decide ((8:Int)<(n:Int))=false:=by simp;omega
 go_wp2_with fail;clear k3
 go_loopw [40] (fun x wr=>∃ k:Nat,k<=n/\x=.int .i64 (k:Int)/\(∀ j,j<k->ok j)/\Below w1.heap.size w1 wr) (fun x _=>n-(intOf x).toNat)
 case atStart=>exact ⟨0,aq _,rfl,fun j hj=>absurd hj (by omega),aj _ _⟩
 obtain ⟨k,hk,rfl,Gi,hb⟩:=hrel;have nX:=zh Gi;have Hb:=zh hb;have pJ:=hb.size;clear Gi hb;have mj:=zh (HX.o.bb Hb.o);have iE:=zh (fL.o.bb Hb.o)
 by_cases hlt:k<n
 ·obtain ⟨b,off,rfl,hg⟩:=iE.o.at hlt;have hmem:=yP (l:=L) (i:=k) (by rw[jJ.o];exact hlt);have lz:=zh (iE.o.m _ hmem);have HV:=zh (fun W (hb:Below wr.heap.size wr W)=>uQ (pat L k).1 (pat L k).2 W (lz.o.bb hb) (HS.o _ hmem));have ig:=zh (pI.o k);have Ah:=zh (fun j (hj:j<n)=>(iE.o.O3 hj).n0);clear hmem lz;generalize pat L k=p at *;obtain ⟨⟨num,rev,md,sz,f,LV,GA⟩,s⟩:=p;dsimp only at HV ig hg;generalize we ⟨num,rev,md,sz,f,LV,GA⟩=vb at *;obtain ⟨g0,g1,g2,g3,g4,g5,g6,g7,g8,g9,g10,g11,g12,g13⟩:=hg;dsimp only at g0 g1 g2 g3 g4 g5 g6 g7 g8 g9 g10 g11 g12 g13;have x3:=mj.o.c3;have gZ:=zh (eU.new wr num rev md sz s LV GA 38);have oJ:=zh (zT wr num rev md sz s LV GA 38);go_upto_region 8 with fail;change Code.wp _ _ _ _ (wr.alloc (.cells (zU num rev md sz s LV GA) 38))
  obtain ⟨W,hW⟩:∃ W,wr.alloc (.cells (zU num rev md sz s LV GA) 38)=W:=⟨_,rfl⟩
  rw[hW] at gZ oJ |-;have mA:=zh (k_ Hb.o pJ oJ.o);have jg:=ak pJ oJ.o.size;have VX:=gZ.o.lt;have EC:=zh (mj.o.bb oJ.o);have VY:=EC.o.lt;have mI:=zh (fun W' (hb:Below W.heap.size W W')=>HV.o W' (zA oJ.o hb));have SE:=zh (fun j (hj:j<n)=>Below.keeps oJ.o _ _ (Ah.o j hj));clear hW g0 g1 g2 g3 g4 g5 g6 g7 g8 g9 g10 g11 g12 g13 x3 HV Ah mj;obtain ⟨bl,e7,hbl⟩:∃ bl,((k:Int)==(n:Int)-1)=bl/\(bl=true↔k+1=n):=⟨_,rfl,by rw[cM];omega⟩
  obtain ⟨bm,e8,Kz⟩:∃ bm,(md==1)=bm/\(bm=true↔md=1):=⟨_,rfl,by rw[cM]⟩
  have Cn:=zh Kz;have ED:=zh hbl;clear Kz hbl;obtain ⟨bx,e9,fJ⟩:∃ bx,(bm != bl)=bx/\(bx=false↔bm=bl):=⟨_,rfl,by cases bm<;>cases bl<;>decide⟩
  have j1:IntKind.i64.wrap ((n:Int)-1)=(n:Int)-1:=aF _ (by omega);have j2:IntKind.i64.wrap (2*l)=2*l:=aF _ (by omega);have y3:=EC.o.c3;go_wp2_with fail;clear y3;have m0:=zB gZ.o.n0;have m1:=zB gZ.o.n1;have m2:=zB gZ.o.n2;have m3:=zB gZ.o.n3;have m4:=zB gZ.o.c0;have m5:=zB gZ.o.c1;have m6:=zB gZ.o.c2;have m7:=zB gZ.o.c3;have m8:=zB gZ.o.c4;have m9:=zB gZ.o.c5;have m10:=zB gZ.o.c6;have m11:=zB gZ.o.c7;have m12:=zB gZ.o.cl;have m13:=zB gZ.o.cg;have v1:=zB EC.o.c1;have v3:=zB EC.o.c3
  cases vb
  ·refine zD (by kernel_rfl) (by kernel_rfl) ?_
   repeat (go_big_quiet_step ((exact zH (mI.o _ (eD.h _)))))
   refine ay ?_;intro _ hw';obtain ⟨q,hw'⟩:=hw';subst hw';have jc:=zh (k_ mA.o jg q.h);generalize q.w'=W2 at *;clear m0 m1 m2 m3 m4 m5 m6 m7 m8 m9 m10 m11 m12 m13 v1 v3;go_wp2_with fail;go_ret;exact ⟨zJ (lh.o k hlt fun h=>by have:=(ig.o.1 h).1;cases this).symm,zA HQ.o jc.o⟩
  by_cases hk0:k=0
  ·have e0:decide ((0:Int)<(k:Int))=false:=by simp;omega
   cases bx
   ·have sF:bm=bl:=fJ.1 rfl
    by_cases hsz:2*l<sz
    ·have Bc:decide (2*l<sz)=true:=by simp;omega
     refine zD (by kernel_rfl) (by kernel_rfl) ?_
     repeat (go_big_quiet_step ((exact zH (mI.o _ (eD.h _)))))
     refine ay ?_;intro _ hw';obtain ⟨q,hw'⟩:=hw';subst hw';have jc:=zh (k_ mA.o jg q.h);generalize q.w'=W2 at *;clear m0 m1 m2 m3 m4 m5 m6 m7 m8 m9 m10 m11 m12 m13 v1 v3;go_wp2_with fail;go_ret;exact ⟨zJ (lh.o k hlt fun h=>by have:=(ig.o.1 h).2.2.2;omega).symm,zA HQ.o jc.o⟩
    have Bc:decide (2*l<sz)=false:=by simp;omega
    have jb:=zh (show sz<=2*l by omega);refine zD (by kernel_rfl) (by kernel_rfl) ?_
    repeat (go_big_quiet_step ((exact zH (mI.o _ (eD.h _)))))
    refine ay ?_;intro _ hw';obtain ⟨q,hw'⟩:=hw';subst hw';have jc:=zh (k_ mA.o jg q.h);generalize q.w'=W2 at *;clear m0 m1 m2 m3 m4 m5 m6 m7 m8 m9 m10 m11 m12 m13 v1 v3;go_wp2_with fail
    exact ⟨⟨k+1,by omega,by go_num,fun j hj=>by
     by_cases e:j=k
     ·rw[e];exact ig.o.2 ⟨rfl,fun h=>absurd h (by omega),by rw[<- Cn.o,<- ED.o,sF],jb.o⟩
     exact nX.o j (by omega),jc.o⟩,by simp[intOf];omega⟩
   have sF:Hid (bm≠bl):=zh (fun h=>by cases fJ.2 h);rcases VW sF.o with ⟨rfl,rfl⟩|⟨rfl,rfl⟩
   ·clear e9 fJ;refine zD (by kernel_rfl) (by kernel_rfl) ?_
    repeat (go_big_quiet_step ((exact zH (mI.o _ (eD.h _)))))
    refine ay ?_;intro _ hw';obtain ⟨q,hw'⟩:=hw';subst hw';have jc:=zh (k_ mA.o jg q.h);generalize q.w'=W2 at *;clear m0 m1 m2 m3 m4 m5 m6 m7 m8 m9 m10 m11 m12 m13 v1 v3;go_wp2_with fail;go_ret
    exact ⟨zJ (lh.o k hlt fun h=>by
       have h5:=(ig.o.1 h).2.2.1
       rw[<- Cn.o,<- ED.o] at h5
       simp at h5).symm,zA HQ.o jc.o⟩
   clear e9 fJ;refine zD (by kernel_rfl) (by kernel_rfl) ?_
   repeat (go_big_quiet_step ((exact zH (mI.o _ (eD.h _)))))
   refine ay ?_;intro _ hw';obtain ⟨q,hw'⟩:=hw';subst hw';have jc:=zh (k_ mA.o jg q.h);generalize q.w'=W2 at *;clear m0 m1 m2 m3 m4 m5 m6 m7 m8 m9 m10 m11 m12 m13 v1 v3;go_wp2_with fail;go_ret
   exact ⟨zJ (lh.o k hlt fun h=>by
      have h5:=(ig.o.1 h).2.2.1
      rw[<- Cn.o,<- ED.o] at h5
      simp at h5).symm,zA HQ.o jc.o⟩
  obtain ⟨j,rfl⟩:∃ j,k=j+1:=⟨k-1,by omega⟩
  have e0:decide ((0:Int)<((j+1:Nat):Int))=true:=by simp
  have p0:=zB (SE.o j (by omega));have Fk:j+1-1=j:=by omega
  rw[Fk] at ig;generalize (pat L j).1.num=pn at *;have i1:(j:Int)+1<(n:Int):=by omega
  have i2:(j:Int)<(n:Int):=by omega
  have j3:IntKind.i64.wrap (j:Int)=(j:Int):=aF _ (by omega)
  by_cases hpn:num<=pn
  ·have e11:decide (num<=pn)=true:=by simp;omega
   refine zD (by kernel_rfl) (by kernel_rfl) ?_
   repeat (go_big_quiet_step ((exact zH (mI.o _ (eD.h _)))))
   refine ay ?_;intro _ hw';obtain ⟨q,hw'⟩:=hw';subst hw';have jc:=zh (k_ mA.o jg q.h);generalize q.w'=W2 at *;clear m0 m1 m2 m3 m4 m5 m6 m7 m8 m9 m10 m11 m12 m13 v1 v3;go_wp2_with fail;go_ret;exact ⟨zJ (lh.o (j+1) hlt fun h=>by have:=(ig.o.1 h).2.1 (by omega);omega).symm,zA HQ.o jc.o⟩
  have e11:decide (num<=pn)=false:=by simp;omega
  have jB:=zh (show pn<num by omega)
  cases bx
  ·have sF:bm=bl:=fJ.1 rfl
   by_cases hsz:2*l<sz
   ·have Bc:decide (2*l<sz)=true:=by simp;omega
    refine zD (by kernel_rfl) (by kernel_rfl) ?_
    repeat (go_big_quiet_step ((exact zH (mI.o _ (eD.h _)))))
    refine ay ?_;intro _ hw';obtain ⟨q,hw'⟩:=hw';subst hw';have jc:=zh (k_ mA.o jg q.h);generalize q.w'=W2 at *;clear m0 m1 m2 m3 m4 m5 m6 m7 m8 m9 m10 m11 m12 m13 v1 v3;go_wp2_with fail;go_ret;exact ⟨zJ (lh.o (j+1) hlt fun h=>by have:=(ig.o.1 h).2.2.2;omega).symm,zA HQ.o jc.o⟩
   have Bc:decide (2*l<sz)=false:=by simp;omega
   have jb:=zh (show sz<=2*l by omega);refine zD (by kernel_rfl) (by kernel_rfl) ?_
   repeat (go_big_quiet_step ((exact zH (mI.o _ (eD.h _)))))
   refine ay ?_;intro _ hw';obtain ⟨q,hw'⟩:=hw';subst hw';have jc:=zh (k_ mA.o jg q.h);generalize q.w'=W2 at *;clear m0 m1 m2 m3 m4 m5 m6 m7 m8 m9 m10 m11 m12 m13 v1 v3;go_wp2_with fail
   exact ⟨⟨j+1+1,by omega,by go_num,fun j' hj=>by
    by_cases e:j'=j+1
    ·rw[e];exact ig.o.2 ⟨rfl,fun _=>jB.o,by rw[<- Cn.o,<- ED.o,sF],jb.o⟩
    exact nX.o j' (by omega),jc.o⟩,by simp[intOf];omega⟩
  have sF:Hid (bm≠bl):=zh (fun h=>by cases fJ.2 h);rcases VW sF.o with ⟨rfl,rfl⟩|⟨rfl,rfl⟩
  ·clear e9 fJ;refine zD (by kernel_rfl) (by kernel_rfl) ?_
   repeat (go_big_quiet_step ((exact zH (mI.o _ (eD.h _)))))
   refine ay ?_;intro _ hw';obtain ⟨q,hw'⟩:=hw';subst hw';have jc:=zh (k_ mA.o jg q.h);generalize q.w'=W2 at *;clear m0 m1 m2 m3 m4 m5 m6 m7 m8 m9 m10 m11 m12 m13 v1 v3;go_wp2_with fail;go_ret
   exact ⟨zJ (lh.o (j+1) hlt fun h=>by
     have h5:=(ig.o.1 h).2.2.1
     rw[<- Cn.o,<- ED.o] at h5
     simp at h5).symm,zA HQ.o jc.o⟩
  clear e9 fJ;refine zD (by kernel_rfl) (by kernel_rfl) ?_
  repeat (go_big_quiet_step ((exact zH (mI.o _ (eD.h _)))))
  refine ay ?_;intro _ hw';obtain ⟨q,hw'⟩:=hw';subst hw';have jc:=zh (k_ mA.o jg q.h);generalize q.w'=W2 at *;clear m0 m1 m2 m3 m4 m5 m6 m7 m8 m9 m10 m11 m12 m13 v1 v3;go_wp2_with fail;go_ret
  exact ⟨zJ (lh.o (j+1) hlt fun h=>by
    have h5:=(ig.o.1 h).2.2.1
    rw[<- Cn.o,<- ED.o] at h5
    simp at h5).symm,zA HQ.o jc.o⟩
 obtain rfl:k=n:=by omega
 have HF:=zh (l5.o nX.o);obtain ⟨j,rfl⟩:∃ j,k=j+1:=⟨k-1,by omega⟩
 have Fk:j+1-1=j:=by omega
 rw[Fk] at HF;obtain ⟨b,off,rfl,hg⟩:=iE.o.at (show j<j+1 by omega);have hmem:=yP (l:=L) (i:=j) (by rw[jJ.o];omega);have lz:=zh (iE.o.m _ hmem);have HV:=zh (fun W (hb:Below wr.heap.size wr W)=>zLY (pat L j).2 (pat L j).1.m W (lz.o.bb hb) (HS.o _ hmem));have hil:(zN (pat L j).1.m).length<=80000:=wn (HS.o _ hmem);have hsz:=((pI.o j).1 (nX.o j (by omega))).2.2.2;have VZ:=((yM _).1 ((pI.o j).1 (nX.o j (by omega))).1).size.1;clear hmem lz l5 lh pI nX HS;generalize (zN (pat L j).1.m).length=len at *;generalize pat L j=p at *;obtain ⟨⟨num,rev,md,sz,f,LV,GA⟩,s⟩:=p;dsimp only at HV HF hg hsz VZ;obtain ⟨g0,g1,g2,g3,g4,g5,g6,g7,g8,g9,g10,g11,g12,g13⟩:=hg;dsimp only at g0 g1 g2 g3 g4 g5 g6 g7 g8 g9 g10 g11 g12 g13;have x3:=mj.o.c3;have gZ:=zh (eU.new wr num rev md sz s LV GA 38)
 have oJ:=zh (zT wr num rev md sz s LV GA 38);have j3:IntKind.i64.wrap (j:Int)=(j:Int):=aF _ (by omega);have i1:(j:Int)+1<((j+1:Nat):Int)+1:=by omega
 have i2:(j:Int)<((j+1:Nat):Int):=by omega
 go_upto_region 13 with fail;change Code.wp _ _ _ _ (wr.alloc (.cells (zU num rev md sz s LV GA) 38));obtain ⟨W,hW⟩:∃ W,wr.alloc (.cells (zU num rev md sz s LV GA) 38)=W:=⟨_,rfl⟩
 rw[hW] at gZ oJ |-;have mA:=zh (k_ Hb.o pJ oJ.o);have jg:=ak pJ oJ.o.size;have VX:=gZ.o.lt;have EC:=zh (mj.o.bb oJ.o);have mI:=zh (fun W' (hb:Below W.heap.size W W')=>HV.o W' (zA oJ.o hb));clear hW g0 g1 g2 g3 g4 g5 g6 g7 g8 g9 g10 g11 g12 g13 x3 HV mj;have j2:IntKind.i64.wrap (2*l)=2*l:=aF _ (by omega);have j4:IntKind.i64.wrap ((len:Int)*24)=(len:Int)*24:=aF _ (by omega);have j5:IntKind.i64.wrap (sz+(len:Int)*24)=sz+(len:Int)*24:=aF _ (by omega);have m3:=zB gZ.o.n3;have m4:=zB gZ.o.c0;have m5:=zB gZ.o.c1;have m6:=zB gZ.o.c2;have m7:=zB gZ.o.c3;have m8:=zB gZ.o.c4;have m9:=zB gZ.o.c5;have m10:=zB gZ.o.c6;have m11:=zB gZ.o.c7;have m12:=zB gZ.o.cl;have m13:=zB gZ.o.cg;have v1:=zB EC.o.c1;refine zD (by kernel_rfl) (by kernel_rfl) ?_
 repeat (go_big_quiet_step ((first|exact zH (mI.o _ (eD.h _))|exact zH (LI.o _))))
 refine ay ?_;intro _ hw';obtain ⟨q,hw'⟩:=hw';subst hw';have jc:=zh (k_ mA.o jg q.h);generalize q.w'=W2 at *;clear m3 m4 m5 m6 m7 m8 m9 m10 m11 m12 m13 v1;go_wp2_with fail;go_ret;exact ⟨zJ (by rw[HF.o];congr 1),zA HQ.o jc.o⟩
end Go.Proofs.YtcgfilmmokmdjaaGreat
