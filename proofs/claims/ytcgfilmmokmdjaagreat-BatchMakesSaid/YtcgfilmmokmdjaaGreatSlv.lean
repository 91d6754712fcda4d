import Derived.Test.YtcgfilmmokmdjaaGreatQAH
import Derived.Test.YtcgfilmmokmdjaaGreatQAJ
import Derived.Test.YtcgfilmmokmdjaaGreatQAI
set_option linter.all false
set_option maxRecDepth 100000
set_option maxHeartbeats 32000000
namespace Go.Proofs.YtcgfilmmokmdjaaGreat
open Go.RowKit
theorem zIo:∀ {a b:Bool},a=b→(a=true∧b=true)∨(a=false∧b=false):=by decide
theorem YO (w:World):Calls Tryz.prog 28 #[.int .i64 4096] w fun e w'=>e=.returned (.int .i64 4120)∧Below w.heap.size w w':=
 (KQ 4096 w).mono fun _ _ ⟨he,hw⟩=>⟨he.trans rfl,hw▸aj _ _⟩
theorem zLo (w:World):Calls Tryz.prog 28 #[.int .i64 0] w fun e w'=>e=.returned (.int .i64 24)∧Below w.heap.size w w':=
 (KQ 0 w).mono fun _ _ ⟨he,hw⟩=>⟨he.trans rfl,hw▸aj _ _⟩
theorem zFL (i l:Int) (r:Bool) (a:Option Addr) (n c:Nat) (w:World) (hA:¬ (0≤i∧i<4∧4136≤l∧l≤262144∧1≤n∧n≤8)) :
  Calls Tryz.prog 76 #[zO i l r a n c] w fun e w'=>e=.returned (.bool false)∧Below w.heap.size w w':=by
 have HZ:=zh (fun W=>YO W);have eB:=zh (eW.new w i l r a n c 31);have eH:=zh (zM w i l r a n c 31);have hc:i<0∨(0≤i∧4≤i)∨(0≤i∧i<4∧l<4136)∨(0≤i∧i<4∧4136≤l∧262144<l)∨(0≤i∧i<4∧4136≤l∧l≤262144∧n<1)∨(0≤i∧i<4∧4136≤l∧l≤262144∧1≤n∧8<n):=by omega
 clear hA
 go_enter Tryz.func76,Tryz.ntmps76
 go_upto_region 1 with fail;obtain ⟨W,hW⟩:∃ W,w.alloc (.cells (zK i l r a n c) 31)=W:=⟨_,rfl⟩
 change Code.wp _ _ _ _ (w.alloc (.cells (zK i l r a n c) 31));rw[hW] at eB eH ⊢;have nW:=eB.out.lt;have y3:=eB.out.c3;clear hW;go_upto_region 2 with fail;clear y3;have k0:=zB eB.out.c0;have k1:=zB eB.out.c1;rcases hc with h1|⟨h1,h2⟩|⟨h1,h2,h3⟩|⟨h1,h2,h3,h4⟩|⟨h1,h2,h3,h4,h5⟩|⟨h1,h2,h3,h4,h5,h6⟩
 ·
  have e0:decide (i<0)=true:=by simp;omega
  refine zC (by kernel_rfl) (by kernel_rfl) ?_
  repeat (go_big_quiet_step ((exact zE (HZ.out _))))
  refine aA ?_;intro _ hw';obtain ⟨q,hw'⟩:=hw';subst hw';have HQ:=zh (zA eH.out q.h);clear k0 k1;go_wp2_with fail;go_ret;exact ⟨rfl,HQ.out⟩
 ·
  have e0:decide (i<0)=false:=by simp;omega
  have e1:decide (4≤i)=true:=by simp;omega
  refine zC (by kernel_rfl) (by kernel_rfl) ?_
  repeat (go_big_quiet_step ((exact zE (HZ.out _))))
  refine aA ?_;intro _ hw';obtain ⟨q,hw'⟩:=hw';subst hw';have HQ:=zh (zA eH.out q.h);clear k0 k1;go_wp2_with fail;go_ret;exact ⟨rfl,HQ.out⟩
 ·
  have e0:decide (i<0)=false:=by simp;omega
  have e1:decide (4≤i)=false:=by simp;omega
  have e2:decide (l<4136)=true:=by simp;omega
  refine zC (by kernel_rfl) (by kernel_rfl) ?_
  repeat (go_big_quiet_step ((exact zE (HZ.out _))))
  refine aA ?_;intro _ hw';obtain ⟨q,hw'⟩:=hw';subst hw';have HQ:=zh (zA eH.out q.h);clear k0 k1;go_wp2_with fail;go_ret;exact ⟨rfl,HQ.out⟩
 ·
  have e0:decide (i<0)=false:=by simp;omega
  have e1:decide (4≤i)=false:=by simp;omega
  have e2:decide (l<4136)=false:=by simp;omega
  have e3:decide (262144<l)=true:=by simp;omega
  refine zC (by kernel_rfl) (by kernel_rfl) ?_
  repeat (go_big_quiet_step ((exact zE (HZ.out _))))
  refine aA ?_;intro _ hw';obtain ⟨q,hw'⟩:=hw';subst hw';have HQ:=zh (zA eH.out q.h);clear k0 k1;go_wp2_with fail;go_ret;exact ⟨rfl,HQ.out⟩
 ·
  have e0:decide (i<0)=false:=by simp;omega
  have e1:decide (4≤i)=false:=by simp;omega
  have e2:decide (l<4136)=false:=by simp;omega
  have e3:decide (262144<l)=false:=by simp;omega
  have e4:decide ((n:Int)<1)=true:=by simp;omega
  refine zC (by kernel_rfl) (by kernel_rfl) ?_
  repeat (go_big_quiet_step ((exact zE (HZ.out _))))
  refine aA ?_;intro _ hw';obtain ⟨q,hw'⟩:=hw';subst hw';have HQ:=zh (zA eH.out q.h);clear k0 k1;go_wp2_with fail;go_ret;exact ⟨rfl,HQ.out⟩
 have e0:decide (i<0)=false:=by simp;omega
 have e1:decide (4≤i)=false:=by simp;omega
 have e2:decide (l<4136)=false:=by simp;omega
 have e3:decide (262144<l)=false:=by simp;omega
 have e4:decide ((n:Int)<1)=false:=by simp;omega
 have e5:decide ((8:Int)<(n:Int))=true:=by simp;omega
 refine zC (by kernel_rfl) (by kernel_rfl) ?_
 repeat (go_big_quiet_step ((exact zE (HZ.out _))))
 refine aA ?_;intro _ hw';obtain ⟨q,hw'⟩:=hw';subst hw';have HQ:=zh (zA eH.out q.h);clear k0 k1;go_wp2_with fail;go_ret;exact ⟨rfl,HQ.out⟩
theorem zEe (i l:Int) (r:Bool) (a:Option Addr) (n c:Nat) (L:List GP) (w:World) (hA:0≤i∧i<4∧4136≤l∧l≤262144) (hn:1≤n∧n≤8)
  (h:fD w (.slice a n c) L) (hs:∀ p∈L,∀ j,j<8→(p.1.m.st j).length≤10000) :
  Calls Tryz.prog 76 #[zO i l r a n c] w fun e w'=>e=.returned (.bool (zY ⟨i,l,r,ep L⟩))∧Below w.heap.size w w':=by
 have HZ:=zh (fun W=>YO W);have JA:=zh (fun W=>zLo W);have eB:=zh (eW.new w i l r a n c 31);have eH:=zh (zM w i l r a n c 31);have fO:L.length=n:=by
  obtain ⟨_,_,e,_⟩:=h.shape;injection e with _ e _;exact e.symm
 have HR:=zh h;have HS:=zh hs;have jb:=zh fO;have jq:=zh (fun k (hk:k<n) (h:¬ Cw ⟨i,l,r,ep L⟩ k)=>Yj (s:=⟨i,l,r,ep L⟩) (by show k<(ep L).length;rw[zn,fO];exact hk) h)
 have lj:=zh (fun (h:∀ k,k<n→Cw ⟨i,l,r,ep L⟩ k)=>show zY ⟨i,l,r,ep L⟩=decide ((pat L (n-1)).1.size+(((zJ (pat L (n-1)).1.m).length*24:Nat):Int)≤2*l) from by
  rw[cT,zW,aR]
  have hl:(ep L).length=n:=by rw[zn,fO]
  constructor
  ·
   intro h
   have:=h.top
   simp only[yv,hl] at this
   exact this
  intro ht
  refine ⟨⟨hA.1,hA.2.1⟩,hA.2.2,by rw[hl];exact hn,fun k hk=>h k (by rw[hl] at hk;exact hk),?_⟩
  simp only[yv,hl]
  exact ht)
 have pP:=zh (fun k=>show Cw ⟨i,l,r,ep L⟩ k↔(wN (pat L k).1=true∧(0<k→(pat L (k-1)).1.num<(pat L k).1.num)∧((pat L k).1.mode=1↔k+1=n)∧(pat L k).1.size≤2*l) from by
  unfold Cw
  simp only[yv,zn,fO])
 generalize zY ⟨i,l,r,ep L⟩=res at *;generalize hok:Cw ⟨i,l,r,ep L⟩=ok at *;clear hok;obtain ⟨h1,h2,h3,h4⟩:=hA;obtain ⟨Da,AX⟩:=hn;clear h hs fO
 go_enter Tryz.func76,Tryz.ntmps76
 go_upto_region 1 with fail;obtain ⟨W,hW⟩:∃ W,w.alloc (.cells (zK i l r a n c) 31)=W:=⟨_,rfl⟩
 change Code.wp _ _ _ _ (w.alloc (.cells (zK i l r a n c) 31));rw[hW] at eB eH ⊢;have nW:=eB.out.lt;have y3:=eB.out.c3;clear hW;go_upto_region 2 with fail;clear y3;have k0:=zB eB.out.c0;have k1:=zB eB.out.c1;have e0:decide (i<0)=false:=by simp;omega
 have e1:decide (4≤i)=false:=by simp;omega
 have e2:decide (l<4136)=false:=by simp;omega
 have e3:decide (262144<l)=false:=by simp;omega
 have e4:decide ((n:Int)<1)=false:=by simp;omega
 have e5:decide ((8:Int)<(n:Int))=false:=by simp;omega
 refine zC (by kernel_rfl) (by kernel_rfl) ?_
 repeat (go_big_quiet_step ((exact zE (HZ.out _))))
 refine aA ?_;intro _ hw';obtain ⟨q,hw'⟩:=hw';subst hw';have HQ:=zh (zA eH.out q.h);have HX:=zh (eB.out.below q.h);generalize q.w'=w1 at *;clear k0 k1 e0 e1 e2 e3 e4 e5 HZ eB eH;have JB:=HX.out.lt;have fq:=zh (HR.out.below HQ.out);go_wp2_with fail
 go_loopw [4] (fun x wr=>∃ k:Nat,k≤n∧x=.int .i64 (k:Int)∧(∀ j,j<k→ok j)∧Below w1.heap.size w1 wr) (fun x _=>n-(intOf x).toNat)
 case atStart=>exact ⟨0,aq _,rfl,fun j hj=>absurd hj (by omega),aj _ _⟩
 obtain ⟨k,hk,rfl,Ez,hb⟩:=hrel;have lZ:=zh Ez;have Hb:=zh hb;have rR:=hb.size;clear Ez hb;have nj:=zh (HX.out.below Hb.out);have gR:=zh (fq.out.below Hb.out)
 by_cases hlt:k<n
 ·
  obtain ⟨b,off,rfl,hg⟩:=gR.out.at hlt;have hmem:=yX (l:=L) (i:=k) (by rw[jb.out];exact hlt);have jS:=zh (gR.out.m _ hmem);have HV:=zh (fun W (hb:Below wr.heap.size wr W)=>uD (pat L k).1 (pat L k).2 W (jS.out.below hb) (HS.out _ hmem));have iB:=zh (pP.out k);have rO:=zh (fun j (hj:j<n)=>(gR.out.Mz hj).n0);clear hmem jS;generalize pat L k=p at *;obtain ⟨⟨num,rev,md,sz,f,LV,GA⟩,s⟩:=p;dsimp only at HV iB hg;generalize wN ⟨num,rev,md,sz,f,LV,GA⟩=vb at *;obtain ⟨g0,g1,g2,g3,g4,g5,g6,g7,g8,g9,g10,g11,g12,g13⟩:=hg;dsimp only at g0 g1 g2 g3 g4 g5 g6 g7 g8 g9 g10 g11 g12 g13;have x3:=nj.out.c3;have gX:=zh (eO.new wr num rev md sz s LV GA 113);have mM:=zh (zZ wr num rev md sz s LV GA 113);go_upto_region 8 with fail;change Code.wp _ _ _ _ (wr.alloc (.cells (zX num rev md sz s LV GA) 113))
  obtain ⟨W,hW⟩:∃ W,wr.alloc (.cells (zX num rev md sz s LV GA) 113)=W:=⟨_,rfl⟩
  rw[hW] at gX mM ⊢;have lH:=zh (jo Hb.out rR mM.out);have iD:=ak rR mM.out.size;have S3:=gX.out.lt;have Db:=zh (nj.out.below mM.out);have S4:=Db.out.lt;have lQ:=zh (fun W' (hb:Below W.heap.size W W')=>HV.out W' (zA mM.out hb));have PJ:=zh (fun j (hj:j<n)=>Below.keeps mM.out _ _ (rO.out j hj));clear hW g0 g1 g2 g3 g4 g5 g6 g7 g8 g9 g10 g11 g12 g13 x3 HV rO nj;obtain ⟨bl,e7,hbl⟩:∃ bl,((k:Int)==(n:Int)-1)=bl∧(bl=true↔k+1=n):=⟨_,rfl,by rw[cE];omega⟩
  obtain ⟨bm,e8,Iw⟩:∃ bm,(md==1)=bm∧(bm=true↔md=1):=⟨_,rfl,by rw[cE]⟩
  have Dc:=zh Iw;have Dd:=zh hbl;clear Iw hbl;obtain ⟨bx,e9,fM⟩:∃ bx,(bm != bl)=bx∧(bx=false↔bm=bl):=⟨_,rfl,by cases bm<;>cases bl<;>decide⟩
  have j1:IntKind.i64.wrap ((n:Int)-1)=(n:Int)-1:=aF _ (by omega);have j2:IntKind.i64.wrap (2*l)=2*l:=aF _ (by omega);have y3:=Db.out.c3;go_wp2_with fail;clear y3;have m0:=zB gX.out.n0;have m1:=zB gX.out.n1;have m2:=zB gX.out.n2;have m3:=zB gX.out.n3;have m4:=zB gX.out.c0;have m5:=zB gX.out.c1;have m6:=zB gX.out.c2;have m7:=zB gX.out.c3;have m8:=zB gX.out.c4;have m9:=zB gX.out.c5;have m10:=zB gX.out.c6;have m11:=zB gX.out.c7;have m12:=zB gX.out.cl;have m13:=zB gX.out.cg;have v1:=zB Db.out.c1;have v3:=zB Db.out.c3
  cases vb
  ·
   refine zC (by kernel_rfl) (by kernel_rfl) ?_
   repeat (go_big_quiet_step ((exact zE (lQ.out _ (eo.h _)))))
   refine aA ?_;intro _ hw';obtain ⟨q,hw'⟩:=hw';subst hw';have iA:=zh (jo lH.out iD q.h);generalize q.w'=W2 at *;clear m0 m1 m2 m3 m4 m5 m6 m7 m8 m9 m10 m11 m12 m13 v1 v3;go_wp2_with fail;go_ret;exact ⟨zI (jq.out k hlt fun h=>by have:=(iB.out.1 h).1;cases this).symm,zA HQ.out iA.out⟩
  cases bx
  ·
   have pQ:=zh (show bm=bl from fM.1 rfl);rcases zIo pQ.out with ⟨rfl,rfl⟩|⟨rfl,rfl⟩
   ·
    as_aux_lemma =>
    clear e9 fM
    by_cases hk0:k=0
    ·
     have e0:decide ((0:Int)<(k:Int))=false:=by simp;omega
     have e7z:((0:Int)==(n:Int)-1)=true:=by rw[← e7,hk0];rfl
     have e0n:decide (0<k)=false:=by rw[hk0];rfl
     have Ei:=zh hk0;clear hk0
     by_cases hsz:2*l<sz
     ·
      have sZ:decide (2*l<sz)=true:=by simp;omega
      refine zC (by kernel_rfl) (by kernel_rfl) ?_
      repeat (go_big_quiet_step ((exact zE (lQ.out _ (eo.h _)))))
      refine aA ?_;intro _ hw';obtain ⟨q,hw'⟩:=hw';subst hw';have iA:=zh (jo lH.out iD q.h);generalize q.w'=W2 at *;clear m0 m1 m2 m3 m4 m5 m6 m7 m8 m9 m10 m11 m12 m13 v1 v3;go_wp2_with fail;go_ret;exact ⟨zI (jq.out k hlt fun h=>by have:=(iB.out.1 h).2.2.2;omega).symm,zA HQ.out iA.out⟩
     have sZ:decide (2*l<sz)=false:=by simp;omega
     have jl:=zh (show sz≤2*l by omega);refine zC (by kernel_rfl) (by kernel_rfl) ?_
     repeat (go_big_quiet_step ((exact zE (lQ.out _ (eo.h _)))))
     refine aA ?_;intro _ hw';obtain ⟨q,hw'⟩:=hw';subst hw';have iA:=zh (jo lH.out iD q.h);generalize q.w'=W2 at *;clear m0 m1 m2 m3 m4 m5 m6 m7 m8 m9 m10 m11 m12 m13 v1 v3;go_wp2_with fail
     exact ⟨⟨k+1,by omega,by go_num,fun j' hj=>by
      by_cases e:j'=k
      ·
       rw[e];exact iB.out.2 ⟨rfl,fun h=>absurd h (by have:=Ei.out;omega),by rw[← Dc.out,← Dd.out],jl.out⟩
      exact lZ.out j' (by omega),iA.out⟩,by simp[intOf];omega⟩
    obtain ⟨j,rfl⟩:∃ j,k=j+1:=⟨k-1,by omega⟩
    have e0:decide ((0:Int)<((j+1:Nat):Int))=true:=by simp
    have e7j:((j:Int)+1==(n:Int)-1)=true:=e7;have p0:=zB (PJ.out j (by omega));have DW:j+1-1=j:=by omega
    rw[DW] at iB;generalize (pat L j).1.num=pn at *;have i1:(j:Int)+1<(n:Int):=by omega
    have i2:(j:Int)<(n:Int):=by omega
    have j3:IntKind.i64.wrap (j:Int)=(j:Int):=aF _ (by omega)
    by_cases Yq:num≤pn
    ·
     have e11:decide (num≤pn)=true:=by simp;omega
     refine zC (by kernel_rfl) (by kernel_rfl) ?_
     repeat (go_big_quiet_step ((exact zE (lQ.out _ (eo.h _)))))
     refine aA ?_;intro _ hw';obtain ⟨q,hw'⟩:=hw';subst hw';have iA:=zh (jo lH.out iD q.h);generalize q.w'=W2 at *;clear m0 m1 m2 m3 m4 m5 m6 m7 m8 m9 m10 m11 m12 m13 v1 v3;go_wp2_with fail;go_ret;exact ⟨zI (jq.out (j+1) hlt fun h=>by have:=(iB.out.1 h).2.1 (by omega);omega).symm,zA HQ.out iA.out⟩
    have e11:decide (num≤pn)=false:=by simp;omega
    have iW:=zh (show pn<num by omega)
    by_cases hsz:2*l<sz
    ·
     have sZ:decide (2*l<sz)=true:=by simp;omega
     refine zC (by kernel_rfl) (by kernel_rfl) ?_
     repeat (go_big_quiet_step ((exact zE (lQ.out _ (eo.h _)))))
     refine aA ?_;intro _ hw';obtain ⟨q,hw'⟩:=hw';subst hw';have iA:=zh (jo lH.out iD q.h);generalize q.w'=W2 at *;clear m0 m1 m2 m3 m4 m5 m6 m7 m8 m9 m10 m11 m12 m13 v1 v3;go_wp2_with fail;go_ret;exact ⟨zI (jq.out (j+1) hlt fun h=>by have:=(iB.out.1 h).2.2.2;omega).symm,zA HQ.out iA.out⟩
    have sZ:decide (2*l<sz)=false:=by simp;omega
    have jl:=zh (show sz≤2*l by omega);refine zC (by kernel_rfl) (by kernel_rfl) ?_
    repeat (go_big_quiet_step ((exact zE (lQ.out _ (eo.h _)))))
    refine aA ?_;intro _ hw';obtain ⟨q,hw'⟩:=hw';subst hw';have iA:=zh (jo lH.out iD q.h);generalize q.w'=W2 at *;clear m0 m1 m2 m3 m4 m5 m6 m7 m8 m9 m10 m11 m12 m13 v1 v3;go_wp2_with fail
    exact ⟨⟨j+1+1,by omega,by go_num,fun j' hj=>by
     by_cases e:j'=(j+1)
     ·
      rw[e];exact iB.out.2 ⟨rfl,fun _=>iW.out,by rw[← Dc.out,← Dd.out],jl.out⟩
     exact lZ.out j' (by omega),iA.out⟩,by simp[intOf];omega⟩
   as_aux_lemma =>
   clear e9 fM
   by_cases hk0:k=0
   ·
    have e0:decide ((0:Int)<(k:Int))=false:=by simp;omega
    have e7z:((0:Int)==(n:Int)-1)=false:=by rw[← e7,hk0];rfl
    have e0n:decide (0<k)=false:=by rw[hk0];rfl
    have Ei:=zh hk0;clear hk0
    by_cases hsz:2*l<sz
    ·
     have sZ:decide (2*l<sz)=true:=by simp;omega
     refine zC (by kernel_rfl) (by kernel_rfl) ?_
     repeat (go_big_quiet_step ((exact zE (lQ.out _ (eo.h _)))))
     refine aA ?_;intro _ hw';obtain ⟨q,hw'⟩:=hw';subst hw';have iA:=zh (jo lH.out iD q.h);generalize q.w'=W2 at *;clear m0 m1 m2 m3 m4 m5 m6 m7 m8 m9 m10 m11 m12 m13 v1 v3;go_wp2_with fail;go_ret;exact ⟨zI (jq.out k hlt fun h=>by have:=(iB.out.1 h).2.2.2;omega).symm,zA HQ.out iA.out⟩
    have sZ:decide (2*l<sz)=false:=by simp;omega
    have jl:=zh (show sz≤2*l by omega);refine zC (by kernel_rfl) (by kernel_rfl) ?_
    repeat (go_big_quiet_step ((exact zE (lQ.out _ (eo.h _)))))
    refine aA ?_;intro _ hw';obtain ⟨q,hw'⟩:=hw';subst hw';have iA:=zh (jo lH.out iD q.h);generalize q.w'=W2 at *;clear m0 m1 m2 m3 m4 m5 m6 m7 m8 m9 m10 m11 m12 m13 v1 v3;go_wp2_with fail
    exact ⟨⟨k+1,by omega,by go_num,fun j' hj=>by
     by_cases e:j'=k
     ·
      rw[e];exact iB.out.2 ⟨rfl,fun h=>absurd h (by have:=Ei.out;omega),by rw[← Dc.out,← Dd.out],jl.out⟩
     exact lZ.out j' (by omega),iA.out⟩,by simp[intOf];omega⟩
   obtain ⟨j,rfl⟩:∃ j,k=j+1:=⟨k-1,by omega⟩
   have e0:decide ((0:Int)<((j+1:Nat):Int))=true:=by simp
   have e7j:((j:Int)+1==(n:Int)-1)=false:=e7;have p0:=zB (PJ.out j (by omega));have DW:j+1-1=j:=by omega
   rw[DW] at iB;generalize (pat L j).1.num=pn at *;have i1:(j:Int)+1<(n:Int):=by omega
   have i2:(j:Int)<(n:Int):=by omega
   have j3:IntKind.i64.wrap (j:Int)=(j:Int):=aF _ (by omega)
   by_cases Yq:num≤pn
   ·
    have e11:decide (num≤pn)=true:=by simp;omega
    refine zC (by kernel_rfl) (by kernel_rfl) ?_
    repeat (go_big_quiet_step ((exact zE (lQ.out _ (eo.h _)))))
    refine aA ?_;intro _ hw';obtain ⟨q,hw'⟩:=hw';subst hw';have iA:=zh (jo lH.out iD q.h);generalize q.w'=W2 at *;clear m0 m1 m2 m3 m4 m5 m6 m7 m8 m9 m10 m11 m12 m13 v1 v3;go_wp2_with fail;go_ret;exact ⟨zI (jq.out (j+1) hlt fun h=>by have:=(iB.out.1 h).2.1 (by omega);omega).symm,zA HQ.out iA.out⟩
   have e11:decide (num≤pn)=false:=by simp;omega
   have iW:=zh (show pn<num by omega)
   by_cases hsz:2*l<sz
   ·
    have sZ:decide (2*l<sz)=true:=by simp;omega
    refine zC (by kernel_rfl) (by kernel_rfl) ?_
    repeat (go_big_quiet_step ((exact zE (lQ.out _ (eo.h _)))))
    refine aA ?_;intro _ hw';obtain ⟨q,hw'⟩:=hw';subst hw';have iA:=zh (jo lH.out iD q.h);generalize q.w'=W2 at *;clear m0 m1 m2 m3 m4 m5 m6 m7 m8 m9 m10 m11 m12 m13 v1 v3;go_wp2_with fail;go_ret;exact ⟨zI (jq.out (j+1) hlt fun h=>by have:=(iB.out.1 h).2.2.2;omega).symm,zA HQ.out iA.out⟩
   have sZ:decide (2*l<sz)=false:=by simp;omega
   have jl:=zh (show sz≤2*l by omega);refine zC (by kernel_rfl) (by kernel_rfl) ?_
   repeat (go_big_quiet_step ((exact zE (lQ.out _ (eo.h _)))))
   refine aA ?_;intro _ hw';obtain ⟨q,hw'⟩:=hw';subst hw';have iA:=zh (jo lH.out iD q.h);generalize q.w'=W2 at *;clear m0 m1 m2 m3 m4 m5 m6 m7 m8 m9 m10 m11 m12 m13 v1 v3;go_wp2_with fail
   exact ⟨⟨j+1+1,by omega,by go_num,fun j' hj=>by
    by_cases e:j'=(j+1)
    ·
     rw[e];exact iB.out.2 ⟨rfl,fun _=>iW.out,by rw[← Dc.out,← Dd.out],jl.out⟩
    exact lZ.out j' (by omega),iA.out⟩,by simp[intOf];omega⟩
  have pQ:=zh (show bm≠bl from fun h=>by cases fM.2 h);rcases S2 pQ.out with ⟨rfl,rfl⟩|⟨rfl,rfl⟩
  ·
   as_aux_lemma =>
   clear e9 fM;refine zC (by kernel_rfl) (by kernel_rfl) ?_
   repeat (go_big_quiet_step ((exact zE (lQ.out _ (eo.h _)))))
   refine aA ?_;intro _ hw';obtain ⟨q,hw'⟩:=hw';subst hw';have iA:=zh (jo lH.out iD q.h);generalize q.w'=W2 at *;clear m0 m1 m2 m3 m4 m5 m6 m7 m8 m9 m10 m11 m12 m13 v1 v3;go_wp2_with fail;go_ret
   exact ⟨zI (jq.out k hlt fun h=>by
     have h5:=(iB.out.1 h).2.2.1
     rw[← Dc.out,← Dd.out] at h5
     simp at h5).symm,zA HQ.out iA.out⟩
  as_aux_lemma =>
  clear e9 fM;refine zC (by kernel_rfl) (by kernel_rfl) ?_
  repeat (go_big_quiet_step ((exact zE (lQ.out _ (eo.h _)))))
  refine aA ?_;intro _ hw';obtain ⟨q,hw'⟩:=hw';subst hw';have iA:=zh (jo lH.out iD q.h);generalize q.w'=W2 at *;clear m0 m1 m2 m3 m4 m5 m6 m7 m8 m9 m10 m11 m12 m13 v1 v3;go_wp2_with fail;go_ret
  exact ⟨zI (jq.out k hlt fun h=>by
    have h5:=(iB.out.1 h).2.2.1
    rw[← Dc.out,← Dd.out] at h5
    simp at h5).symm,zA HQ.out iA.out⟩
 as_aux_lemma =>
 obtain rfl:k=n:=by omega
 have HF:=zh (lj.out lZ.out);obtain ⟨j,rfl⟩:∃ j,k=j+1:=⟨k-1,by omega⟩
 have DW:j+1-1=j:=by omega
 rw[DW] at HF;obtain ⟨b,off,rfl,hg⟩:=gR.out.at (show j<j+1 by omega);have hmem:=yX (l:=L) (i:=j) (by rw[jb.out];omega);have jS:=zh (gR.out.m _ hmem);have HV:=zh (fun W (hb:Below wr.heap.size wr W)=>zGi (pat L j).2 (pat L j).1.m W (jS.out.below hb) (HS.out _ hmem));have hil:(zJ (pat L j).1.m).length≤80000:=wS (HS.out _ hmem);have hsz:=((pP.out j).1 (lZ.out j (by omega))).2.2.2;have S5:=((yJ _).1 ((pP.out j).1 (lZ.out j (by omega))).1).size.1;clear hmem jS lj jq pP lZ HS;generalize (zJ (pat L j).1.m).length=len at *;generalize pat L j=p at *;obtain ⟨⟨num,rev,md,sz,f,LV,GA⟩,s⟩:=p;dsimp only at HV HF hg hsz S5;obtain ⟨g0,g1,g2,g3,g4,g5,g6,g7,g8,g9,g10,g11,g12,g13⟩:=hg;dsimp only at g0 g1 g2 g3 g4 g5 g6 g7 g8 g9 g10 g11 g12 g13;have x3:=nj.out.c3;have gX:=zh (eO.new wr num rev md sz s LV GA 113)
 have mM:=zh (zZ wr num rev md sz s LV GA 113);have j3:IntKind.i64.wrap (j:Int)=(j:Int):=aF _ (by omega);have i1:(j:Int)+1<((j+1:Nat):Int)+1:=by omega
 have i2:(j:Int)<((j+1:Nat):Int):=by omega
 go_upto_region 11 with fail;change Code.wp _ _ _ _ (wr.alloc (.cells (zX num rev md sz s LV GA) 113));obtain ⟨W,hW⟩:∃ W,wr.alloc (.cells (zX num rev md sz s LV GA) 113)=W:=⟨_,rfl⟩
 rw[hW] at gX mM ⊢;have lH:=zh (jo Hb.out rR mM.out);have iD:=ak rR mM.out.size;have S3:=gX.out.lt;have Db:=zh (nj.out.below mM.out);have lQ:=zh (fun W' (hb:Below W.heap.size W W')=>HV.out W' (zA mM.out hb));clear hW g0 g1 g2 g3 g4 g5 g6 g7 g8 g9 g10 g11 g12 g13 x3 HV nj;have j2:IntKind.i64.wrap (2*l)=2*l:=aF _ (by omega);have j4:IntKind.i64.wrap (24*(len:Int))=24*(len:Int):=aF _ (by omega);have j5:IntKind.i64.wrap (sz+24*(len:Int))=sz+24*(len:Int):=aF _ (by omega);have m3:=zB gX.out.n3;have m4:=zB gX.out.c0;have m5:=zB gX.out.c1;have m6:=zB gX.out.c2;have m7:=zB gX.out.c3;have m8:=zB gX.out.c4;have m9:=zB gX.out.c5;have m10:=zB gX.out.c6;have m11:=zB gX.out.c7;have m12:=zB gX.out.cl;have m13:=zB gX.out.cg;have v1:=zB Db.out.c1;refine zC (by kernel_rfl) (by kernel_rfl) ?_
 repeat (go_big_quiet_step ((first|exact zE (lQ.out _ (eo.h _))|exact zE (JA.out _))))
 refine aA ?_;intro _ hw';obtain ⟨q,hw'⟩:=hw';subst hw';have iA:=zh (jo lH.out iD q.h);generalize q.w'=W2 at *;clear m3 m4 m5 m6 m7 m8 m9 m10 m11 m12 m13 v1;go_wp2_with fail;go_ret;exact ⟨zI (by rw[HF.out];congr 1;rw[eq_iff_iff];push_cast;omega),zA HQ.out iA.out⟩
theorem zz (i l:Int) (r:Bool) (a:Option Addr) (n c:Nat) (L:List GP) (w:World) (h:fD w (.slice a n c) L) (hs:∀ p∈L,∀ j,j<8→(p.1.m.st j).length≤10000) :
  Calls Tryz.prog 76 #[zO i l r a n c] w fun e w'=>e=.returned (.bool (zY ⟨i,l,r,ep L⟩))∧Below w.heap.size w w':=by
 have fO:L.length=n:=by
  obtain ⟨_,_,e,_⟩:=h.shape;injection e with _ e _;exact e.symm
 by_cases hA:0≤i∧i<4∧4136≤l∧l≤262144∧1≤n∧n≤8
 ·
  exact zEe i l r a n c L w ⟨hA.1,hA.2.1,hA.2.2.1,hA.2.2.2.1⟩ hA.2.2.2.2 h hs
 have hf:zY ⟨i,l,r,ep L⟩=false:=qN fun hv=>hA ⟨hv.id.1,hv.id.2,hv.lim.1,hv.lim.2,by have:=hv.len;rw[zn,fO] at this;exact this⟩
 rw[hf];exact zFL i l r a n c w hA
end Go.Proofs.YtcgfilmmokmdjaaGreat
