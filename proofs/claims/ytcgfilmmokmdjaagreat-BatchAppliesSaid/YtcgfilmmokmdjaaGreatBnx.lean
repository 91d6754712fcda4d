import Derived.Test.YtcgfilmmokmdjaaGreatQAY
set_option linter.all false
set_option maxRecDepth 100000
set_option maxHeartbeats 32000000
namespace Go.Proofs.YtcgfilmmokmdjaaGreat
open Go.Proofs.Tryz
open Go.RowKit
def zOX (s:fk) (a:Option Addr) (n c:Nat) (L:List GP) (eH:Bool) (tk:Int) (kv nv rv:Value) (ks:List KP) (es:List (Nd×Value)) (w:World) (h:fB w (.slice a n c) L) (hg:ey L=s.ep) (hl:fF 700 s.ep)
  (hk:rN w kv ks) (hkl:∀ p∈ks,p.2.2.length<=1000) (hnd:mJ w nv es) (hel:es.length<=300) (iz:∀ p∈es,p.1.data.length<=1000000) (DI:∃ a n c,rv=.slice a n c) :
  Calls prog 40 #[zQ s.id s.lim s.ro a n c,tF eH tk kv nv rv] w (iY w (vP s eH (gV ks) (es.map (·.1)))):=by
 obtain ⟨ra,rn,rc,rfl⟩:=DI;obtain ⟨ka,kc,rfl,nw,hk2⟩:=hk.shape;obtain ⟨na,nc,rfl,_,_⟩:=hnd.shape;obtain ⟨i,l,r,g⟩:=s;dsimp only at hg hl |-;subst hg;have fT:L.length=n:=by
  obtain ⟨_,_,e,_⟩:=h.shape;injection e with _ e _;exact e.symm
 have hm:(gV ks).length=ks.length:=xx ks;have hmx:ks.length<=9223372036854775807:=ak nw hk2;have JB:=zh hk;have F7:=zh hnd;have HL:=zh hl;have u_:=zh hkl;have iZ:=zh (show (ey L).length=n by rw[zk,fT]);generalize Ri:vP ⟨i,l,r,ey L⟩ eH (gV ks) (es.map (·.1))=AP at *;have J8:=zh Ri;obtain ⟨W0,hW0,fJ,J2,nE,fS⟩:=zFr w i l r a n c (wV eH tk (.slice ka ks.length kc) (.slice na es.length nc) (.slice ra rn rc)) 31 78 31;have HX:=zh fJ;have iu:=zh J2;have HZ:=zh nE;have HB:=zh fS;have HR:=zh (h.bb fS);have BR:=zh iz;clear h hk hnd hl iz hkl Ri fJ J2 nE fS nw hk2 fT
 go_enter func40,ntmps40
 go_upto_region 1 with fail;clear hW0;have J3:=zh (zt i l r a n c L W0 HR.o (yx (HL.o.mono (by decide)) (ag _)));obtain ⟨k0,k1,k2,k3⟩:=(eu.g_ HX.o).q
 by_cases hv:zb ⟨i,l,r,ey L⟩=true
 ·have Nu:=zh ((zX _).1 hv);rw[hv] at J3
  have pX:=zh (show AP=if eH=true then xb ⟨i,l,r,ey L⟩ else if (yC (gV ks) ⟨i,l,r,ey L⟩).2=0 then (if (yZ (zZ ⟨i,l,r,ey L⟩) (es.map (·.1))).1=0 then yS (yC (gV ks) ⟨i,l,r,ey L⟩).1 (yZ (zZ ⟨i,l,r,ey L⟩) (es.map (·.1))).2 else (yq,(yZ (zZ ⟨i,l,r,ey L⟩) (es.map (·.1))).1)) else (yq,(yC (gV ks) ⟨i,l,r,ey L⟩).2) from by
   rw[<- J8.o];unfold vP;rw[ah hv])
  have G0:Hid (∀ j,j<8->((zZ ⟨i,l,r,ey L⟩).m.st j).length<=700):=zh (HL.o _ (vr Nu.o));clear hv J8;go_wp2_with fail;refine J3.o.mono ?_;rintro e w1 ⟨rfl,hb⟩;clear k0 k1 k2 k3;replace HX:=zh (HX.o.bb hb);replace iu:=zh (iu.o.bb hb);replace HZ:=zh (HZ.o.bb hb);replace HR:=zh (HR.o.bb hb);replace HB:=zh (zA HB.o hb);clear hb J3;have p0:w1.cell? ⟨w.heap.size+1,0,none⟩=some (.bool eH):=eu.cell iu.o rfl
  cases eH
  ·have oB:=zh (pX.o.trans (ai (by decide)));clear pX;go_wp2_with fail;clear p0
   go_loopw [6] (fun iv V=>∃ (k:Nat) (t:fk) (a':Option Addr) (n' c':Nat) (L':List GP),iv=.int .i64 (k:Int)/\k<=ks.length/\Hid (yC ((gV ks).take k) ⟨i,l,r,ey L⟩=(t,0))/\Hid (eu V w.heap.size (zM t.id t.lim t.ro a' n' c') 31)/\Hid (fB V (.slice a' n' c') L')/\Hid (ey L'=t.ep)/\Hid (eu V (w.heap.size+1) (wV false tk (.slice ka ks.length kc) (.slice na es.length nc) (.slice ra rn rc)) 78)/\Hid (eu V (w.heap.size+1+1) (zM 0 0 false none 0 0) 31)/\Hid (Below w.heap.size w V)) (fun iv _=>ks.length-(intOf iv).toNat)
   case atStart=>exact ⟨0,⟨i,l,r,ey L⟩,a,n,c,L,rfl,aq _,zh rfl,HX,HR,zh rfl,iu,HZ,HB⟩
   clear HX HR iu HZ HB;obtain ⟨k,t,a',n',c',L',rfl,Fa,CQ,HX,HR,FI,iu,HZ,HB⟩:=hrel
   have I6:=zh (show fF 700 t.ep from by
    have:=kt ((gV ks).take k) ⟨i,l,r,ey L⟩ HL.o
    rw[CQ.o] at this;exact this)
   have Y8:L'.length=n':=by
    obtain ⟨_,_,e,_⟩:=HR.o.shape;injection e with _ e _;exact e.symm
   have p2:=iu.o.cell (i:=2) rfl
   by_cases hlt:k<ks.length
   ·have i1:(k:Int)<(ks.length:Int):=by omega
    obtain ⟨bk,ok,rfl,hU,c0,c1⟩:=(JB.o.bb HB.o).at hlt;have E8:=u_.o _ (Y3 hlt);have pq:=zh (fun h2=>zBU (l:=gV ks) (k:=k) (by rw[hm];exact hlt) (s:=⟨i,l,r,ey L⟩) (by rw[CQ.o]) h2);have sx:=zh (fun h2=>zCo (l:=gV ks) (k:=k) (by rw[hm];exact hlt) (s:=⟨i,l,r,ey L⟩) (by rw[CQ.o]) h2);rw[CQ.o,zEw] at pq sx;dsimp only at pq sx;generalize iG ks k=kp at *;obtain ⟨num,T1,keys⟩:=kp;dsimp only at hU c0 c1 E8 pq sx;obtain ⟨CD,CG,rfl,_,_⟩:=hU.fO;have HU:=zh hU;have AU:=zh c0;have Y9:=zh c1;have CH:=zh E8;have Rl:Hid (∀ q,fh t.ep q=(pat L' q).1):=zh (fun q=>by rw[<- FI.o];exact yj);have T3:=zh (show t.ep.length=n' by rw[<- FI.o,zk];exact Y8);have Rh:n'<=9223372036854775807:=by
     obtain ⟨_,cap,e,h1,h2⟩:=HR.o.shape;injection e with _ e _;subst e;exact ak h1 h2
    clear hU c0 c1 E8;go_wp2_with fail;generalize wr=v0 at *;clear p2;have eP:=zh (aj v0.heap.size v0)
    go_loopw [7] (fun jv V=>∃ j:Nat,jv=.int .i64 (j:Int)/\j<=n'/\Hid (∀ q,q<j->(pat L' q).1.num≠num)/\Hid (Below v0.heap.size v0 V)) (fun jv _=>n'-(intOf jv).toNat)
    case atStart=>exact ⟨0,rfl,aq _,zh (fun q hq=>absurd hq (by omega)),eP⟩
    clear eP;obtain ⟨j,rfl,hj,KE,ic⟩:=hrel;have hx3:=(HX.o.bb ic.o).cell (i:=3) rfl;have hp2:=(iu.o.bb ic.o).cell (i:=2) rfl;have hc0:=Below.keeps ic.o _ _ AU.o;have m0:(0:Int)<=(k:Int):=by omega
    have m1:¬ (k:Int)<0:=by omega
    by_cases hjn:j<n'
    ·have j1:(j:Int)<(n':Int):=by omega
     have j2:¬ (j:Int)<0:=by omega
     obtain ⟨gb,go,rfl,hat⟩:=(HR.o.bb ic.o).at hjn;have MX:=hat.n0
     have NH:=zh (fun (hne:(pat L' j).1.num≠num)=>show ∀ q,q<j+1->(pat L' q).1.num≠num from fun q hq=>by
      by_cases e:q=j
      ·subst e;exact hne
      exact KE.o q (by omega))
     by_cases gN:(pat L' j).1.num=num
     ·have HG:Hid (uz t.ep num=j):=zh (ku (by rw[T3.o];exact hjn) (by rw[Rl.o];exact gN) fun q hq=>by rw[Rl.o];exact KE.o q hq);rw[gN] at MX;clear NH KE gN hat;go_upto_region 9 with fail;replace hx3:=zB hx3;replace hp2:=zB hp2;replace hc0:=zB hc0;replace MX:=zB MX;refine zD (by kernel_rfl) (by kernel_rfl) ?_
      repeat (go_big_quiet_step (fail))
      refine ay ?_;intro _ hw';obtain ⟨q,hw'⟩:=hw';subst hw';replace ic:=zh (zA ic.o q.h);clear hx3 hp2 hc0 MX;generalize q.w'=v1 at *;clear q;have hx3:=(HX.o.bb ic.o).cell (i:=3) rfl;have e2:((j:Int)==(n':Int))=false:=by simp;omega
      go_upto_region 13 with fail;clear e2
      have o_:=zh (show yK t num keys=if (yh (pat L' j).1 keys).1=0 then yS t (yh (pat L' j).1 keys).2 else (yq,(yh (pat L' j).1 keys).1) by
       unfold yK;rw[HG.o,ah (by rw[T3.o];exact hjn),Rl.o])
      have hmp:=yP (l:=L') (i:=j) (by omega);have hlen:∀ q,q<8->((pat L' j).1.m.st q).length<=700:=fun q hq=>I6.o _ (by rw[<- FI.o];exact cB hmp) q hq
      have u_:=zh (fun W2 (hb:Below v1.heap.size v1 W2)=>Xk (pat L' j).1 (pat L' j).2 (.slice CD keys.length CG) keys W2 ((HR.o.m _ hmp).bb (zA ic.o hb)) (fun q hq=>ak (hlen q hq) (by decide)) (il.bb HU.o (zA ic.o hb)) (ak CH.o (by decide)));have Bl:Hid (∀ q,q<8->((yh (pat L' j).1 keys).2.m.st q).length<=10000):=zh (fun q hq=>ak (ke (pat L' j).1 keys hlen q hq) (by decide));replace HX:=zh (HX.o.bb ic.o);replace iu:=zh (iu.o.bb ic.o);replace HZ:=zh (HZ.o.bb ic.o);replace HR:=zh (HR.o.bb ic.o);replace Y9:=zh (Below.keeps ic.o _ _ Y9.o);replace HB:=zh (zA HB.o ic.o);obtain ⟨gb9,go9,e0,hat⟩:=HR.o.at hjn;injection e0 with e0;injection e0 with e0 e1 _;subst e0 e1;have ES:=zh hat;clear hat hmp hlen HG ic Rl T3 AU HU CH hx3;generalize hK:yh (pat L' j).1 keys=KG at *;clear hK
      obtain ⟨er,⟨tn,tr,tm,tz,⟨tf,tL,tG⟩⟩⟩:=KG;have HMj:=zh (HR.o.m _ (yP (l:=L') (i:=j) (by omega)));generalize pat L' j=p at *;obtain ⟨⟨pn,pr,pm,pz,⟨pf,pL,pG⟩⟩,ps⟩:=p;dsimp only at u_ o_ Bl HMj
      go_cut [8,9] (fun vb ve wx=>∃ bG s9,vb=.pointer (some ⟨bG,0,none⟩)/\ve=.int .i64 er/\v1.heap.size<=bG/\Hid (eu wx bG (zU tn tr tm tz s9 tL tG) 113)/\Hid (fN wx s9 tf)/\Hid (Below v1.heap.size v1 wx))
      case first =>
       refine yQ [eT (.pointer (some ⟨w.heap.size,3,none⟩)),eT (.slice (some ⟨gb,go,none⟩) n' c'),eT (.int .i64 (j:Int)),eT (.pointer (some ⟨gb,go+j*14,none⟩)),eT (ze pn pr pm pz ps pL pG),eT (.pointer (some ⟨w.heap.size+1,2,none⟩)),eT (.slice (some ⟨bk,ok,none⟩) ks.length kc),eT (.int .i64 (k:Int)),eT (.pointer (some ⟨bk,ok+k*2,none⟩)),eT (.pointer (some ⟨bk,ok+k*2+1,none⟩)),eT (.slice CD keys.length CG),Tp er tn tr tm tz tf tL tG,Tp er tn tr tm tz tf tL tG,zMr tn tr tm tz tf tL tG,eT (.int .i64 er),zMw 113 v1.heap.size] [15] 109 14 (by kernel_rfl) (by kernel_rfl) rfl rfl (by decide) (by rfl) (by kernel_rfl) (fun f=>by simp[fU,zW,Act.put];exact rfl) ?_ ?_ ?_
       ·refine ⟨?_,?_,?_,?_,?_,?_,?_,?_,?_,?_,?_,?_,?_,?_,?_,?_,trivial⟩
        ·intro f w2 hb hd;clear hd;dsimp only;go_wp2_with fail;exact pS rfl (by simp)
        ·intro f w2 hb hd;have d0:f 0=_:=hd 0 (by kernel_rfl);clear hd;dsimp only;rw[d0];have q3:=(HX.o.bb hb).cell (i:=3) rfl;go_wp2_with fail;exact pS rfl (by simp)
        ·intro f w2 hb hd;clear hd;dsimp only;go_wp2_with fail;exact pS rfl (by simp)
        ·intro f w2 hb hd;have d1:f 1=_:=hd 1 (by kernel_rfl);have d2:f 2=_:=hd 2 (by kernel_rfl);clear hd;dsimp only;rw[d1];rw[d2];have j0:=j2;have j3:=j1;go_wp2_with fail;exact pS rfl (by simp)
        ·intro f w2 hb hd;have d3:f 3=_:=hd 3 (by kernel_rfl);clear hd;dsimp only;rw[d3];have hx:=ES.o.bb hb;obtain ⟨q0,q1,q2,q3,q4,q5,q6,q7,q8,q9,w_,y_,z_,Aa⟩:=hx.q;clear hx;dsimp only at q0 q1 q2 q3 q4 q5 q6 q7 q8 q9 w_ y_ z_ Aa;go_wp2_with fail;exact pS rfl (by simp)
        ·intro f w2 hb hd;clear hd;dsimp only;go_wp2_with fail;exact pS rfl (by simp)
        ·intro f w2 hb hd;have d5:f 5=_:=hd 5 (by kernel_rfl);clear hd;dsimp only;rw[d5];have q2:=(iu.o.bb hb).cell (i:=2) rfl;go_wp2_with fail;exact pS rfl (by simp)
        ·intro f w2 hb hd;clear hd;dsimp only;go_wp2_with fail;exact pS rfl (by simp)
        ·intro f w2 hb hd;have d6:f 6=_:=hd 6 (by kernel_rfl);have d7:f 7=_:=hd 7 (by kernel_rfl);clear hd;dsimp only;rw[d6];rw[d7];have j0:=m1;have j3:=i1;go_wp2_with fail;exact pS rfl (by simp)
        ·intro f w2 hb hd;have d8:f 8=_:=hd 8 (by kernel_rfl);clear hd;dsimp only;rw[d8];go_wp2_with fail;exact pS rfl (by simp)
        ·intro f w2 hb hd;have d9:f 9=_:=hd 9 (by kernel_rfl);clear hd;dsimp only;rw[d9];have q1:=Below.keeps hb _ _ Y9.o;go_wp2_with fail;exact pS rfl (by simp)
        ·intro f w2 hb hd;have d4:f 4=_:=hd 4 (by kernel_rfl);have d10:f 10=_:=hd 10 (by kernel_rfl);clear hd;dsimp only;rw[d4];rw[d10];go_wp2_with fail;refine (u_.o w2 hb).mono ?_;rintro e w9 ⟨⟨s9,rfl,sZ⟩,gy⟩;have jl:=zh (sZ.rd (HMj.o.bb hb) gy);clear sZ;go_wp2_with fail;exact pRg gy ⟨s9,rfl,jl.o⟩ (by simp)
        ·intro f w2 hb hd;obtain ⟨Y_,d11,mD⟩:=hd 11 (by kernel_rfl);clear hd;dsimp only;rw[d11];have jl:=zh mD;clear mD;go_wp2_with fail;exact pRg (aj _ _) ⟨Y_,rfl,jl.o⟩ (by simp)
        ·intro f w2 hb hd;obtain ⟨N2,d12,mR⟩:=hd 12 (by kernel_rfl);clear hd;dsimp only;rw[d12];have jl:=zh mR;clear mR;go_wp2_with fail;exact pRg (aj _ _) ⟨N2,rfl,jl.o⟩ (by simp)
        ·intro f w2 hb hd;obtain ⟨N2,d12,mR⟩:=hd 12 (by kernel_rfl);clear hd;dsimp only;rw[d12];clear mR;go_wp2_with fail;exact pS rfl (by simp)
        intro f w2 hb hd;clear hd;dsimp only;have pJ:=hb.size;have Ar:=eu.new w2 (zU 0 0 0 0 Sl.nil 0 0) 113;go_wp2_with fail;exact ⟨rfl,(aj _ _).alloc (ag _) _,fun t ht=>by injection ht with ht;subst ht;exact ⟨⟨_,rfl,pJ,Ar⟩,fun _=>⟨ag _,by simp[blk]⟩⟩⟩
       ·intro f w8 hb hd iX;clear iX;obtain ⟨s9,d13,r9⟩:=hd 13 (show 13<16 by decide);obtain ⟨bG,d15,lo,bx⟩:=hd 15 (show 15<16 by decide);have d14:f 14=_:=hd 14 (show 14<16 by decide)
        try dsimp only
        rw[d13,d14,d15];clear hd d13 d14 d15;have iZ:Hid (eu (pts w8 bG (zS tn tr tm tz s9 tL tG)) bG (zU tn tr tm tz s9 tL tG) 113):=zh ((by have h:=eu.sets (zS tn tr tm tz s9 tL tG) bx;rw[Tq] at h;exact h));have iw:=zh (fN.gen r9 bx (zS tn tr tm tz s9 tL tG));have fH:=zh (zC (B:=v1.heap.size) (b:=bG) lo (zS tn tr tm tz s9 tL tG) hb);have bg:=bx.gen;obtain ⟨g0,g1,g2,g3,g4,g5,g6,g7,g8,g9,g10,g11,g12,g13⟩:=bg.q;have gf:=bg.f;clear r9 bx bg hb;change wpList _ _ _ (_::_::[]) _ _;go_wp2_with fail;go_meet
        case rel=>exact ⟨bG,s9,rfl,rfl,lo,iZ,iw,fH⟩
       intro f w8 hb hd iX;clear iX;obtain ⟨s9,d13,r9⟩:=hd 13 (show 13<16 by decide) (by decide);obtain ⟨bG,d15,lo,bx⟩:=hd 15 (show 15<16 by decide) (by decide);obtain ⟨s8,d12,r8⟩:=hd 12 (show 12<16 by decide) (by decide);clear r8
       try dsimp only
       rw[d12,d13,d15];clear hd d12 d13 d15;have iZ:Hid (eu (pts w8 bG (zS tn tr tm tz s9 tL tG)) bG (zU tn tr tm tz s9 tL tG) 113):=zh ((by have h:=eu.sets (zS tn tr tm tz s9 tL tG) bx;rw[Tq] at h;exact h));have iw:=zh (fN.gen r9 bx (zS tn tr tm tz s9 tL tG));have fH:=zh (zC (B:=v1.heap.size) (b:=bG) lo (zS tn tr tm tz s9 tL tG) hb);have bg:=bx.gen;obtain ⟨g0,g1,g2,g3,g4,g5,g6,g7,g8,g9,g10,g11,g12,g13⟩:=bg.q;have gf:=bg.f;clear r9 bx bg hb;change wpList _ _ _ (_::_::_::[]) _ _;go_wp2_with fail;go_meet
       case rel=>exact ⟨bG,s9,rfl,rfl,lo,iZ,iw,fH⟩
      obtain ⟨bG,s9,rfl,rfl,hlo,KB,Ts,fH⟩:=hcut;generalize wc=v3 at *;replace HX:=zh (HX.o.bb fH.o);replace iu:=zh (iu.o.bb fH.o);replace HZ:=zh (HZ.o.bb fH.o);replace HR:=zh (HR.o.bb fH.o);replace HB:=zh (zA HB.o fH.o);clear fH u_ ES;have ap1:=HZ.o.lt
      by_cases GH:er=0
      ·subst GH;have En:Hid (yK t num keys=yS t ⟨tn,tr,tm,tz,⟨tf,tL,tG⟩⟩):=zh (by rw[o_.o,ah rfl]);clear o_;obtain ⟨ti,tl,FK,Rk⟩:=t;dsimp only at FI HX En pq sx I6;obtain rfl:Rk=ey L':=FI.o.symm;have nR:=zh (ea ti tl FK (some ⟨gb,go,none⟩) n' c' L' v3 HR.o (yx I6.o (by decide)) (⟨tn,tr,tm,tz,⟨tf,tL,tG⟩⟩,s9) Ts.o Bl.o);dsimp only at nR;rw[En.o] at pq sx;generalize yS ⟨ti,tl,FK,ey L'⟩ ⟨tn,tr,tm,tz,⟨tf,tL,tG⟩⟩=CS at *;obtain ⟨⟨ui,ul,ur,ug⟩,ue⟩:=CS;dsimp only at nR pq sx;obtain ⟨g0,g1,g2,g3,g4,g5,g6,g7,g8,g9,g10,g11,g12,g13⟩:=(eu.gen KB.o).q;obtain ⟨k0,k1,k2,k3⟩:=(eu.g_ HX.o).q;go_wp2_with fail;refine nR.o.mono ?_;rintro e v4 ⟨⟨xa,xn,xc,xL,rfl,CJ,ou⟩,hb⟩;dsimp only at ou |-;clear g0 g1 g2 g3 g4 g5 g6 g7 g8 g9 g10 g11 g12 g13;clear k0 k1 k2 k3 nR KB Ts En Bl;have mj:=zh CJ;have gZ:=zh ou
       replace HX:=zh (HX.o.bb hb);replace iu:=zh (iu.o.bb hb);replace HZ:=zh (HZ.o.bb hb);replace HB:=zh (zA HB.o hb);clear hb CJ ou HR;obtain ⟨k0,k1,k2,k3⟩:=(eu.g_ HX.o).q;have kf:=(eu.g_ HX.o).f;go_upto_region 17 with fail;clear k0 k1 k2 k3 kf;change Code.wp _ _ _ _ (pts v4 w.heap.size (zI ui ul ur xa xn xc));have fG:=zh (eu.mV HX.o ui ul ur xa xn xc);replace mj:=zh (fB.g_ mj.o HX.o (zI ui ul ur xa xn xc));replace iu:=zh (eu.eL (c:=w.heap.size) (by omega) (zI ui ul ur xa xn xc) iu.o);replace HZ:=zh (eu.eL (c:=w.heap.size) (by omega) (zI ui ul ur xa xn xc) HZ.o);replace HB:=zh (zC (B:=w.heap.size) (b:=w.heap.size) (ag _) (zI ui ul ur xa xn xc) HB.o);clear HX;generalize pts v4 w.heap.size (zI ui ul ur xa xn xc)=v5 at *
       by_cases J9:ue=0
       ·subst J9;have Y7:=zh (pq.o rfl);go_wp2_with fail;exact ⟨⟨k+1,⟨ui,ul,ur,ug⟩,xa,xn,xc,xL,by go_num,by omega,Y7,fG,mj,gZ,iu,HZ,HB⟩,by simp[intOf];omega⟩
       have hz:(ue==0)=false:=beq_eq_false_iff_ne.2 J9;have Za:Hid (AP=(yq,ue)):=zh (by rw[oB.o,sx.o J9];exact ai J9);have jW:=zh (eu.g_ HZ.o);obtain ⟨z0,z1,z2,z3⟩:=jW.o.q;have zf:=jW.o.f;go_wp2_with fail;change bodyPost _ _ _ _ _ (pts v5 (w.heap.size+1+1) (zI 0 0 false none 0 0));have hby:=jW.o.all 0 0 false none 0 0;have eN:=zh (zC (B:=w.heap.size) (b:=(w.heap.size+1+1)) (by omega) (zI 0 0 false none 0 0) HB.o);generalize pts v5 (w.heap.size+1+1) (zI 0 0 false none 0 0)=V at *;exact au (v:=.tuple #[zQ 0 0 false none 0 0,.int .i64 ue]) (by simp[results,results40,go_sem,hby.c0,hby.c1,hby.c2,hby.c3]) rfl (by rw[Za.o];exact iY.no eN.o)
      have Za:=zh (show AP=(yq,er) from by
       rw[oB.o,sx.o (by rw[o_.o,ai GH];exact GH),o_.o,ai GH];exact ai GH)
      have hz:(er==0)=false:=beq_eq_false_iff_ne.2 GH;have jW:=zh (eu.g_ HZ.o);obtain ⟨z0,z1,z2,z3⟩:=jW.o.q;have zf:=jW.o.f;go_wp2_with fail;change bodyPost _ _ _ _ _ (pts v3 (w.heap.size+1+1) (zI 0 0 false none 0 0));have hby:=jW.o.all 0 0 false none 0 0;have eN:=zh (zC (B:=w.heap.size) (b:=(w.heap.size+1+1)) (by omega) (zI 0 0 false none 0 0) HB.o);generalize pts v3 (w.heap.size+1+1) (zI 0 0 false none 0 0)=V at *;exact au (v:=.tuple #[zQ 0 0 false none 0 0,.int .i64 er]) (by simp[results,results40,go_sem,hby.c0,hby.c1,hby.c2,hby.c3]) rfl (by rw[Za.o];exact iY.no eN.o)
     as_aux_lemma =>
     have Ch:=zh (NH.o gN);have e1:((pat L' j).1.num != num)=true:=by simpa using gN
     clear NH KE gN hat;generalize (pat L' j).1.num=pn at *;go_upto_region 9 with fail;replace hx3:=zB hx3;replace hp2:=zB hp2;replace hc0:=zB hc0;replace MX:=zB MX;refine zD (by kernel_rfl) (by kernel_rfl) ?_
     repeat (go_big_quiet_step (fail))
     refine ay ?_;intro _ hw';obtain ⟨q,hw'⟩:=hw';subst hw';replace ic:=zh (zA ic.o q.h);clear hx3 hp2 hc0 MX;generalize q.w'=v1 at *;clear q;have hx3:=(HX.o.bb ic.o).cell (i:=3) rfl;clear hx3;go_wp2_with fail;exact ⟨⟨j+1,by go_num,by omega,Ch,ic⟩,by simp[intOf];omega⟩
    as_aux_lemma =>
    have j1:¬ (j:Int)<(n':Int):=by omega
    obtain rfl:j=n':=by omega
    have o_:=zh (show yK t num keys=(yq,6) by
     unfold yK
     rw[zDg fun q hq=>by rw[Rl.o];exact KE.o q (by rw[T3.o] at hq;omega),ai (by omega)])
    have En:Hid (AP=(yq,6)):=zh (by rw[oB.o,sx.o (by rw[o_.o];decide),o_.o];exact ai (by decide));clear KE;go_upto_region 9 with fail;replace hx3:=zB hx3;replace hp2:=zB hp2;replace hc0:=zB hc0;refine zD (by kernel_rfl) (by kernel_rfl) ?_
    repeat (go_big_quiet_step (fail))
    refine ay ?_;intro _ hw';obtain ⟨q,hw'⟩:=hw';subst hw';replace ic:=zh (zA ic.o q.h);clear hx3 hp2 hc0;generalize q.w'=v1 at *;clear q;have hx3:=(HX.o.bb ic.o).cell (i:=3) rfl;replace HZ:=zh (HZ.o.bb ic.o);replace HB:=zh (zA HB.o ic.o);clear ic;have e2:((j:Int)==(j:Int))=true:=by simp
    have jW:=zh (eu.g_ HZ.o);obtain ⟨z0,z1,z2,z3⟩:=jW.o.q;have zf:=jW.o.f;go_wp2_with fail;change bodyPost _ _ _ _ _ (pts v1 (w.heap.size+1+1) (zI 0 0 false none 0 0));have hby:=jW.o.all 0 0 false none 0 0;have eN:=zh (zC (B:=w.heap.size) (b:=(w.heap.size+1+1)) (by omega) (zI 0 0 false none 0 0) HB.o);generalize pts v1 (w.heap.size+1+1) (zI 0 0 false none 0 0)=V at *;exact au (v:=.tuple #[zQ 0 0 false none 0 0,.int .i64 6]) (by simp[results,results40,go_sem,hby.c0,hby.c1,hby.c2,hby.c3]) rfl (by rw[En.o];exact iY.no eN.o)
   as_aux_lemma =>
   have i1:¬ (k:Int)<(ks.length:Int):=by omega
   have hke:(gV ks).take k=gV ks:=aS (by rw[hm];omega);have h0:=CQ.o;rw[hke] at h0;obtain ⟨N5,T4⟩:=zCV (gV ks) ⟨i,l,r,ey L⟩ Nu.o (by rw[h0]);rw[h0] at N5 T4;dsimp only at N5 T4
   have o_:=zh (show AP=if (yZ (zZ t) (es.map (·.1))).1=0 then yS t (yZ (zZ t) (es.map (·.1))).2 else (yq,(yZ (zZ t) (es.map (·.1))).1) from by
    rw[oB.o,h0,T4];exact ah rfl)
   have J_:Hid (∀ j,j<8->((zZ t).m.st j).length<=700):=zh (I6.o _ (vr N5));clear oB CQ hke h0 T4 G0;obtain ⟨ti,tl,FK,Rk⟩:=t;dsimp only at FI HX o_ I6 N5 J_;obtain rfl:Rk=ey L':=FI.o.symm;have HT:=zh (zOd ti tl FK a' n' c' L' wr HR.o (yx I6.o (by decide)));rw[show wU ⟨ti,tl,FK,ey L'⟩=(0,zZ ⟨ti,tl,FK,ey L'⟩) from Xa N5] at HT;generalize zZ ⟨ti,tl,FK,ey L'⟩=tg at *;obtain ⟨tn,tr,tm,tz,⟨tf,tL,tG⟩⟩:=tg;dsimp only at HT J_;obtain ⟨k0,k1,k2,k3⟩:=(eu.g_ HX.o).q;go_wp2_with fail;refine HT.o.mono ?_;rintro e v1 ⟨⟨sT,rfl,ho⟩,hb⟩;dsimp only at ho |-;clear k0 k1 k2 k3 p2 HT;have Rm:=zh ho;replace HX:=zh (HX.o.bb hb);replace iu:=zh (iu.o.bb hb);replace HZ:=zh (HZ.o.bb hb);replace HR:=zh (HR.o.bb hb);replace HB:=zh (zA HB.o hb);clear hb ho N5;go_upto_region 20 with fail
   change Code.wp _ _ _ _ (v1.alloc (.cells (zU tn tr tm tz sT tL tG) 113));obtain ⟨v2,hV,fq,HG⟩:=dY v1 (zU tn tr tm tz sT tL tG) 113;rw[hV];clear hV;replace Rm:=zh (Rm.o.bb fq);replace HX:=zh (HX.o.bb fq);replace iu:=zh (iu.o.bb fq);replace HZ:=zh (HZ.o.bb fq);replace HR:=zh (HR.o.bb fq);replace HB:=zh (zA HB.o fq);clear fq;generalize v1.heap.size=bG at *;have lL:=zh (WA ⟨tn,tr,tm,tz,⟨tf,tL,tG⟩⟩ sT (.slice na es.length nc) es 700 v2 Rm.o J_.o (F7.o.bb HB.o) (by omega) BR.o);have EG:Hid (∀ j,j<8->((yZ ⟨tn,tr,tm,tz,⟨tf,tL,tG⟩⟩ (es.map (·.1))).2.m.st j).length<=10000):=zh (fun j hj=>ak (uF (K:=700) (g:=⟨tn,tr,tm,tz,⟨tf,tL,tG⟩⟩) (l:=es.map (·.1)) J_.o j hj) (by rw[aH];omega));generalize yZ ⟨tn,tr,tm,tz,⟨tf,tL,tG⟩⟩ (es.map (·.1))=AG at *
   obtain ⟨ae,⟨gn,gr,gm,gz,⟨gf,gL,gG⟩⟩⟩:=AG;dsimp only at lL EG o_;have p3:=iu.o.cell (i:=3) rfl;obtain ⟨g0,g1,g2,g3,g4,g5,g6,g7,g8,g9,g10,g11,g12,g13⟩:=(eu.gen HG.o).q;go_wp2_with fail;refine lL.o.mono ?_;rintro e v3 ⟨⟨s9,rfl,ho⟩,hb⟩;dsimp only at ho |-;clear p3;clear g0 g1 g2 g3 g4 g5 g6 g7 g8 g9 g10 g11 g12 g13;have BA:Hid (fN v3 s9 gf):=zh (ho.rd Rm.o hb);replace HX:=zh (HX.o.bb hb);replace HZ:=zh (HZ.o.bb hb);replace HR:=zh (HR.o.bb hb);replace HB:=zh (zA HB.o hb);clear ho hb lL Rm iu HG;go_upto_region 21 with fail;change Code.wp _ _ _ _ (v3.alloc (.cells (zU gn gr gm gz s9 gL gG) 113));obtain ⟨v4,hV,fq,HG⟩:=dY v3 (zU gn gr gm gz s9 gL gG) 113;rw[hV];clear hV;replace BA:=zh (BA.o.bb fq);replace HX:=zh (HX.o.bb fq);replace HZ:=zh (HZ.o.bb fq);replace HR:=zh (HR.o.bb fq)
   replace HB:=zh (zA HB.o fq);clear fq;generalize v3.heap.size=bG2 at *
   by_cases MW:ae=0
   ·subst MW;have En:=zh (o_.o.trans (ah rfl));clear o_;have nR:=zh (ea ti tl FK a' n' c' L' v4 HR.o (yx I6.o (by decide)) (⟨gn,gr,gm,gz,⟨gf,gL,gG⟩⟩,s9) BA.o EG.o);dsimp only at nR;generalize yS ⟨ti,tl,FK,ey L'⟩ ⟨gn,gr,gm,gz,⟨gf,gL,gG⟩⟩=CS at *;obtain ⟨⟨ci,cl,cr,cg⟩,ce⟩:=CS;obtain ⟨g0,g1,g2,g3,g4,g5,g6,g7,g8,g9,g10,g11,g12,g13⟩:=(eu.gen HG.o).q;obtain ⟨k0,k1,k2,k3⟩:=(eu.g_ HX.o).q;go_wp2_with fail;refine nR.o.mono ?_;rintro e v5 ⟨⟨xa,xn,xc,xL,rfl,CJ,ou⟩,hb⟩;dsimp only at ou |-;clear k0 k1 k2 k3;clear g0 g1 g2 g3 g4 g5 g6 g7 g8 g9 g10 g11 g12 g13;have mj:=zh CJ;have gZ:=zh ou;replace HZ:=zh (HZ.o.bb hb);replace HB:=zh (zA HB.o hb);clear hb CJ ou nR HG BA;have jW:=zh (eu.g_ HZ.o);obtain ⟨z0,z1,z2,z3⟩:=jW.o.q;have zf:=jW.o.f;go_wp2_with fail
    change bodyPost _ _ _ _ _ (pts v5 (w.heap.size+1+1) (zI ci cl cr xa xn xc));have rR:=zh (fB.g_ mj.o HZ.o (zI ci cl cr xa xn xc));have hby:=jW.o.all ci cl cr xa xn xc;have eN:=zh (zC (B:=w.heap.size) (b:=(w.heap.size+1+1)) (by omega) (zI ci cl cr xa xn xc) HB.o);generalize pts v5 (w.heap.size+1+1) (zI ci cl cr xa xn xc)=V at *;exact au (v:=.tuple #[zQ ci cl cr xa xn xc,.int .i64 ce]) (by simp[results,results40,go_sem,hby.c0,hby.c1,hby.c2,hby.c3]) rfl (by rw[En.o];exact ⟨⟨xa,xn,xc,xL,rfl,rR.o,gZ.o⟩,eN.o⟩)
   have hz:(ae==0)=false:=beq_eq_false_iff_ne.2 MW;have En:Hid (AP=(yq,ae)):=zh (o_.o.trans (ai MW));have jW:=zh (eu.g_ HZ.o);obtain ⟨z0,z1,z2,z3⟩:=jW.o.q;have zf:=jW.o.f;go_wp2_with fail;change bodyPost _ _ _ _ _ (pts v4 (w.heap.size+1+1) (zI 0 0 false none 0 0));have hby:=jW.o.all 0 0 false none 0 0;have eN:=zh (zC (B:=w.heap.size) (b:=(w.heap.size+1+1)) (by omega) (zI 0 0 false none 0 0) HB.o);generalize pts v4 (w.heap.size+1+1) (zI 0 0 false none 0 0)=V at *;exact au (v:=.tuple #[zQ 0 0 false none 0 0,.int .i64 ae]) (by simp[results,results40,go_sem,hby.c0,hby.c1,hby.c2,hby.c3]) rfl (by rw[En.o];exact iY.no eN.o)
  have oB:=zh (pX.o.trans (ah rfl));clear pX;have DF:=zh (zFw i l r a n c L w1 HR.o (yx (HL.o.mono (by decide)) (ag _)));obtain ⟨k0,k1,k2,k3⟩:=(eu.g_ HX.o).q;go_wp2_with fail;refine DF.o.mono ?_;rintro e w3 ⟨⟨xa,xn,xc,xL,rfl,CJ,ou⟩,hb⟩;clear k0 k1 k2 k3 p0;generalize xb ⟨i,l,r,ey L⟩=RS9 at *;obtain ⟨⟨ri,rl,rr,rg⟩,re⟩:=RS9;dsimp only at ou |-;have mj:=zh CJ;have gZ:=zh ou;replace HZ:=zh (HZ.o.bb hb);replace HB:=zh (zA HB.o hb);clear hb CJ ou;have jW:=zh (eu.g_ HZ.o);obtain ⟨z0,z1,z2,z3⟩:=jW.o.q;have zf:=jW.o.f;go_wp2_with fail;change bodyPost _ _ _ _ _ (pts w3 (w.heap.size+1+1) (zI ri rl rr xa xn xc));have rR:=zh (fB.g_ mj.o HZ.o (zI ri rl rr xa xn xc));have hby:=jW.o.all ri rl rr xa xn xc;have eN:=zh (zC (B:=w.heap.size) (b:=(w.heap.size+1+1)) (by omega) (zI ri rl rr xa xn xc) HB.o)
  generalize pts w3 (w.heap.size+1+1) (zI ri rl rr xa xn xc)=V at *;exact au (v:=.tuple #[zQ ri rl rr xa xn xc,.int .i64 re]) (by simp[results,results40,go_sem,hby.c0,hby.c1,hby.c2,hby.c3]) rfl (by rw[oB.o];exact ⟨⟨xa,xn,xc,xL,rfl,rR.o,gZ.o⟩,eN.o⟩)
 have hv':zb ⟨i,l,r,ey L⟩=false:=by simpa using hv
 rw[hv'] at J3;have pX:Hid (AP=(yq,1)):=zh (by rw[<- J8.o];unfold vP;rw[ai hv]);clear hv hv' J8;go_wp2_with fail;refine J3.o.mono ?_;rintro e w1 ⟨rfl,hb⟩;replace HZ:=zh (HZ.o.bb hb);replace HB:=zh (zA HB.o hb);clear hb J3 k0 k1 k2 k3;have jW:=zh (eu.g_ HZ.o);obtain ⟨z0,z1,z2,z3⟩:=jW.o.q;have zf:=jW.o.f;go_wp2_with fail;change bodyPost _ _ _ _ _ (pts w1 (w.heap.size+1+1) (zI 0 0 false none 0 0));have hby:=jW.o.all 0 0 false none 0 0;have eN:=zh (zC (B:=w.heap.size) (b:=(w.heap.size+1+1)) (by omega) (zI 0 0 false none 0 0) HB.o);generalize pts w1 (w.heap.size+1+1) (zI 0 0 false none 0 0)=V at *;exact au (v:=.tuple #[zQ 0 0 false none 0 0,.int .i64 1]) (by simp[results,results40,go_sem,hby.c0,hby.c1,hby.c2,hby.c3]) rfl (by rw[pX.o];exact iY.no eN.o)
end Go.Proofs.YtcgfilmmokmdjaaGreat
