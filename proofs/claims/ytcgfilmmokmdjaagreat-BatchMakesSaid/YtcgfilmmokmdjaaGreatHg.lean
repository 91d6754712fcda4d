import Derived.Test.YtcgfilmmokmdjaaGreatHd
import Derived.Test.YtcgfilmmokmdjaaGreatQAF
import Derived.Test.YtcgfilmmokmdjaaGreatMp
set_option linter.all false
set_option maxRecDepth 100000
set_option maxHeartbeats 32000000
namespace Go.Proofs.YtcgfilmmokmdjaaGreat
open Go.RowKit
theorem zFu (l r:List Nd):iR (l++r)=iR l+iR r:=by
 induction l with
 |nil=>simp[iR]
 |cons x l ih=>rw[List.cons_append,vG,vG,ih,cR]
theorem zJA (l:List Nd) (k:Nat):iR (l.take k)≤iR l:=by
 have h:=zFu (l.take k) (l.drop k);rw[b9] at h;omega
theorem zB2 (x:Nd) (a:Option Addr) (cap:Nat) (w:World):Calls Tryz.prog 52 #[MZ x (.slice a x.data.length cap)] w fun e w'=>e=.returned (.bool (decide x.ok))∧Below w.heap.size w w':=by
 obtain ⟨k,c,d,l⟩:=x;dsimp only;have HB:=zh (show Below w.heap.size w (w.alloc (.cells #[.int .u64 (k:Int),.int .u32 (c:Int),.bool d,.slice a l.length cap] 56)) from (aj _ _).alloc (ag _) _)
 have HO:=zh (show decide (Nd.ok ⟨k,c,d,l⟩)=(decide ((l.length:Int)≤4096)&&!(d&&decide (0<(l.length:Int)))) by
  unfold Nd.ok
  dsimp only
  have e:(l=[])↔¬ 0<l.length:=by rw[← List.length_eq_zero_iff];omega
  cases d
  ·
   simp only[dt,Bool.not_false,Bool.and_true,reduceCtorEq,false_imp_iff,and_true]
   exact decide_eq_decide.2 (by omega)
  simp only[bV,forall_const,e]
  rw[cT,aR,aN,aR,Bool.not_eq_true',decide_eq_false_iff_not]
  omega)
 generalize decide (Nd.ok ⟨k,c,d,l⟩)=ob at *;generalize l.length=n at *
 go_enter Tryz.func52,Tryz.ntmps52
 by_cases h1:(n:Int)≤4096
 ·
  have d1:decide ((n:Int)≤4096)=true:=aC h1
  cases d
  ·
   go_wp2_with fail;go_ret;exact ⟨zI (by rw[HO.out,d1];rfl),HB.out⟩
  by_cases h2:0<(n:Int)
  ·
   have d2:decide (0<(n:Int))=true:=aC h2;go_wp2_with fail;go_ret;have h3:0<n:=by omega
   exact ⟨zI (by rw[HO.out,d1,d2];simp[h3]),HB.out⟩
  have d2:decide (0<(n:Int))=false:=aD h2;go_wp2_with fail;go_ret;have h3:¬ 0<n:=by omega
  exact ⟨zI (by rw[HO.out,d1,d2];simp[h3]),HB.out⟩
 have d1:decide ((n:Int)≤4096)=false:=aD h1;go_wp2_with fail;go_ret;exact ⟨zI (by rw[HO.out,d1];rfl),HB.out⟩
theorem zJb (x:Nd) (a:Option Addr) (cap:Nat) (w:World):Calls Tryz.prog 51 #[MZ x (.slice a x.data.length cap)] w fun e w'=>e=.returned (.bool (!decide x.ok))∧Below w.heap.size w w':=by
 have HV:=zh (fun W=>zB2 x a cap W);obtain ⟨W0,hW0⟩:∃ W0,w.alloc (.cells (M2 x (.slice a x.data.length cap)) 56)=W0:=⟨_,rfl⟩
 have lC:=Tt w x (.slice a x.data.length cap);have nk:=BV.new w x (.slice a x.data.length cap);rw[hW0] at lC nk;have HD:=zh nk;have HB:=zh lC;clear lC nk;generalize decide x.ok=ob at *;generalize x.data.length=m at *
 go_enter Tryz.func51,Tryz.ntmps51
 go_upto_region 1 with fail;clear hW0;obtain ⟨d0,d1,d2,d3⟩:=HD.out.q;go_wp2_with fail;refine (HV.out _).mono ?_;rintro e w1 ⟨rfl,hb⟩;have eP:=zh (zA HB.out hb);clear hb;go_wp2_with fail;go_ret;exact ⟨rfl,eP.out⟩
theorem zJB (v:Value) (es:List (Nd×Value)) (w:World) (h:nC w v es) :
  Calls Tryz.prog 90 #[v,.func (.func 51) #[] #[]] w fun e w'=>(∃ k:Int,e=.returned (.int .i64 k)∧decide (0≤k)=!DY (es.map (·.1)))∧Below w.heap.size w w':=by
 obtain ⟨a,cap,rfl,h1,h2⟩:=h.shape
 have HT:=zh (show (∀ j,j<es.length→decide (xQ es j).1.ok=true)→DY (es.map (·.1))=true from fun hh=>(tK _).2 (fun x hx=>by
  obtain ⟨p,hp,rfl⟩:=List.mem_map.1 hx
  obtain ⟨j,hj,rfl⟩:=cG hp
  have:=bn (hh j hj)
  unfold xQ at this
  rw[ax,aB hj] at this
  exact this))
 have HF:=zh (show ∀ j,j<es.length→decide (xQ es j).1.ok=false→DY (es.map (·.1))=false from fun j hj hf=>by
  rw[Bool.eq_false_iff]
  intro ht
  exact cS hf ((tK _).1 ht _ (cZ (uZ hj))))
 have hm:=C1 h1 h2;generalize hn:es.length=n at *;have Hr:=zh h;clear h h1 h2 hn
 go_enter Tryz.func90,Tryz.ntmps90
 go_wp2_with fail
 go_loopw [8] (fun i wr=>∃ k:Nat,k≤n∧i=.int .i64 (k:Int)∧(∀ j,j<k→decide (xQ es j).1.ok=true)∧Below w.heap.size w wr) (fun i _=>n-(intOf i).toNat)
 case atStart=>exact ⟨0,aq _,rfl,fun j hj=>absurd hj (by omega),aj _ _⟩
 obtain ⟨k,hk,rfl,hok,hb⟩:=hrel;have mf:=zh hok;have Hb:=zh hb;have hB:=hb.size;clear hok hb
 by_cases hlt:k<n
 ·
  have hr:=Hr.out.below Hb.out;obtain ⟨b,off,rfl,lq,c0,c1,c2,c3⟩:=hr.at hlt;have rE:=zh (HF.out k hlt)
  have A2:=zh (show decide (xQ es k).1.ok=true→∀ j,j<k+1→decide (xQ es j).1.ok=true from fun ho j hj=>by
   by_cases e:j=k
   ·
    subst e;exact ho
   exact mf.out j (by omega))
  generalize xQ es k=X at c0 c1 c2 c3 lq rE A2;obtain ⟨x,xv⟩:=X;dsimp only at c0 c1 c2 c3 lq rE A2;obtain ⟨xa,xc,rfl,hx1,hx2⟩:=lq.fK;have HV:=zh fun w=>zJb x xa xc w
  clear lq;generalize x.data.length=xm at *;generalize decide x.ok=ob at *;clear hr;go_wp2_with fail;refine (HV.out _).mono ?_;rintro e w1 ⟨rfl,hb1⟩;have mQ:=zh (zA Hb.out hb1)
  cases ob
  ·
   clear hb1;go_wp2_with fail;go_ret;refine ⟨⟨k,rfl,?_⟩,mQ.out⟩;rw[rE.out (by trivial)];simp
  clear hb1;go_wp2_with fail;exact ⟨⟨k+1,by omega,by go_num,A2.out (by trivial),mQ.out⟩,by simp[intOf];omega⟩
 obtain rfl:k=n:=by omega
 go_wp2_with fail;go_ret;refine ⟨⟨-1,rfl,?_⟩,Hb.out⟩;rw[HT.out mf.out];rfl
theorem zG3 (v:Value) (es:List (Nd×Value)) (w:World) (h:nC w v es) :
  Calls Tryz.prog 50 #[v,.func (.func 51) #[] #[]] w fun e w'=>e=.returned (.bool (!DY (es.map (·.1))))∧Below w.heap.size w w':=by
 have HA:=zh (zJB v es w h);obtain ⟨a,cap,rfl,h1,h2⟩:=h.shape;clear h h1 h2
 go_enter Tryz.func50,Tryz.ntmps50
 go_wp2_with fail;refine HA.out.mono ?_;rintro e w1 ⟨⟨k,rfl,hk⟩,hb1⟩;have Hk:=zh hk;have mQ:=zh hb1;clear hk hb1;go_wp2_with fail;go_ret;exact ⟨zI Hk.out,mQ.out⟩
theorem zLF (g:Gn) (s:Sl) (v:Value) (es:List (Nd×Value)) (K:Nat) (w:World) (h:fG w s g.m.st) (hs:∀ i,i<8→(g.m.st i).length≤K) (hr:nC w v es) (hK:K+es.length≤9000) :
  Calls Tryz.prog 12 #[zd g.num g.rev g.mode g.size s g.m.live g.m.d_,v] w (KZ w (xE g (es.map (·.1)))):=by
 obtain ⟨va,vc,rfl,rP,hv2⟩:=hr.shape;have D4:∀ i,i<8→(g.m.st i).length≤10000:=fun i hi=>ak (hs i hi) (by omega)
 have HV:=zh (fun W (hb:Below w.heap.size w W)=>vu g s W (h.below hb) D4);have ZX:=zh (fun W (hb:Below w.heap.size w W)=>zG3 _ es W (hr.below hb));have iq:=zh hr;have EF:=zh h;have jf:=zh (show ∀ W,eZ W w.heap.size Sl.nil ix.m.st from fun W=>eZ.nil W _);have HG:=zh (show xE g (es.map (·.1))=if wN g=true∧DY (es.map (·.1))=true then (if g.mode=1 then (if g.size+(iR (es.map (·.1)):Int)≤1048576 then (0,zj g (es.map (·.1))) else (9,ix)) else (12,ix)) else (1,ix) from rfl);have jl:=zh (show wN g=true→16≤g.size∧g.size≤1048576 from fun hv=>⟨((yJ g).1 hv).size.1,((yJ g).1 hv).size.2.1⟩);have jb:=zh (fun i (hi:i≤es.length)=>wT ((es.map (·.1)).take i) g hs);have Bj:=zh (fun i (hi:i<es.length)=>@YW es i hi);have oT:=zh (show ∀ i,iR ((es.map (·.1)).take i)≤iR (es.map (·.1)) from fun i=>zJA _ i)
 have mP:=zh (show (es.map (·.1)).take es.length=es.map (·.1) from aS (by rw[aH];omega));have pP:=zh (show DY (es.map (·.1))=true→∀ i,i<es.length→(xQ es i).1.ok from fun hh i hi=>(tK _).1 hh _ (cZ (uZ hi)));clear hr h hs D4;generalize hN:es.map (·.1)=N at *;generalize hnn:es.length=n at *;have Tv:=zh hnn;clear hnn hN;obtain ⟨gn,rv,md,z,⟨f,L,G⟩⟩:=g;generalize oK:(⟨gn,rv,md,z,⟨f,L,G⟩⟩:Gn)=g at *;have Tw:=zh oK;obtain ⟨W,hW,fM,hbr,fU⟩:=wv w gn rv md z s L G 38;have HX:=zh fM;have HR:=zh hbr;have HB:=zh fU;clear fM hbr fU;generalize xE g N=TG at *;generalize wN g=vb at *;generalize DY N=ob at *;subst oK;dsimp only at *
 go_enter Tryz.func12,Tryz.ntmps12
 go_upto_region 1 with fail;change Code.wp _ _ _ _ ((w.alloc (.cells (zX gn rv md z s L G) 38)).alloc (.cells (zX 0 0 0 0 Sl.nil 0 0) 38));rw[hW];clear hW;obtain ⟨x0,x1,x2,x3,x4,x5,x6,x7,x8,x9,gq,gu,gj,gl⟩:=HX.out.q;go_wp2_with fail;refine (HV.out _ HB.out).mono ?_;rintro e w1 ⟨rfl,hb1⟩;have fh:=zh (HX.out.below hb1);have fq:=zh (HR.out.below hb1);have eP:=zh (zA HB.out hb1);have hlr:w.heap.size+1<W.heap.size:=HR.out.lt;clear x0 x1 x2 x3 x4 x5 x6 x7 x8 x9 gq gu gj gl;clear hb1 HX HR HB HV
 cases vb
 ·
  have jt:=zh (show TG=(1,ix) by rw[HG.out,ai (fun h=>by cases h.1)]);obtain ⟨r0,r1,r2,r3,r4,r5,r6,r7,r8,r9,mW,mC,nB,oJ⟩:=fq.out.q;have rf:=fq.out.f;go_wp2_with fail;change bodyPost _ _ _ _ _ (pts w1 (w.heap.size+1) (zQ 0 0 0 0 Sl.nil 0 0));have hby:=fq.out.all 0 0 0 0 Sl.nil 0 0;have eD:=zh (zD (B:=w.heap.size) (b:=(w.heap.size+1)) (by omega) (zQ 0 0 0 0 Sl.nil 0 0) eP.out);have gW:=jf.out (pts w1 (w.heap.size+1) (zQ 0 0 0 0 Sl.nil 0 0));rw[jt.out];generalize pts w1 (w.heap.size+1) (zQ 0 0 0 0 Sl.nil 0 0)=V at *;exact au (v:=.tuple #[zd 0 0 0 0 Sl.nil 0 0,.int .i64 1]) (by simp[results,Tryz.results12,go_sem,hby.q]) rfl ⟨⟨_,rfl,gW⟩,eD.out⟩
 obtain ⟨hz1,hz2⟩:=jl.out rfl;go_wp2_with fail;refine (ZX.out _ eP.out).mono ?_;rintro e w2 ⟨rfl,hb2⟩;have fW:=zh (fh.out.below hb2);have gN:=zh (fq.out.below hb2);have eM:=zh (zA eP.out hb2);clear hb2 fh fq eP ZX
 cases ob
 ·
  have jt:=zh (show TG=(1,ix) by rw[HG.out,ai (fun h=>by cases h.2)]);obtain ⟨r0,r1,r2,r3,r4,r5,r6,r7,r8,r9,mW,mC,nB,oJ⟩:=gN.out.q;have rf:=gN.out.f;go_wp2_with fail;change bodyPost _ _ _ _ _ (pts w2 (w.heap.size+1) (zQ 0 0 0 0 Sl.nil 0 0));have hby:=gN.out.all 0 0 0 0 Sl.nil 0 0;have eD:=zh (zD (B:=w.heap.size) (b:=(w.heap.size+1)) (by omega) (zQ 0 0 0 0 Sl.nil 0 0) eM.out);have gW:=jf.out (pts w2 (w.heap.size+1) (zQ 0 0 0 0 Sl.nil 0 0));rw[jt.out];generalize pts w2 (w.heap.size+1) (zQ 0 0 0 0 Sl.nil 0 0)=V at *;exact au (v:=.tuple #[zd 0 0 0 0 Sl.nil 0 0,.int .i64 1]) (by simp[results,Tryz.results12,go_sem,hby.q]) rfl ⟨⟨_,rfl,gW⟩,eD.out⟩
 have j_:=zh (show TG=(if md=1 then (if z+(iR N:Int)≤1048576 then (0,zj ⟨gn,rv,md,z,⟨f,L,G⟩⟩ N) else (9,ix)) else (12,ix)) by rw[HG.out,ah ⟨by trivial,by trivial⟩]);have FO:=zh (pP.out rfl);clear HG pP
 by_cases nU:md=1
 ·
  have e1:(md==1)=true:=by rw[nU];rfl
  have ZY:=zh (show z+(iR N:Int)≤1048576→TG=(0,zj ⟨gn,rv,md,z,⟨f,L,G⟩⟩ N) from fun hf=>by rw[j_.out,ah nU,ah hf]);have od:=zh (show ¬ z+(iR N:Int)≤1048576→TG=(9,ix) from fun hf=>by rw[j_.out,ah nU,ai hf]);clear j_;subst nU;clear e1;obtain ⟨g0,hg0⟩:∃ g0:Gn,(⟨gn,rv,1,z,⟨f,L,G⟩⟩:Gn)=g0:=⟨_,rfl⟩
  have GH:=zh (show ∀ i,i≤n→∀ j,j<8→((zj g0 (N.take i)).m.st j).length≤9000 from fun i hi j hj=>by
   have h1:=jb.out i hi j hj
   have h2:(N.take i).length≤n:=by rw[ay];omega
   rw[← hg0];omega)
  have JM:=zh (show ∀ i,i<n→zj g0 (N.take (i+1))=yS (zj g0 (N.take i)) (xQ es i).1 from fun i hi=>by rw[Bj.out i hi,Yu]);have Ty:=zh (show ∀ i,i≤n→(zj g0 (N.take i)).size=z+(iR (N.take i):Int) from fun i _=>by rw[vI,← hg0]);have HTz:=zh (show ∀ i,i<n→iR (N.take (i+1))=iR (N.take i)+eN (xQ es i).1.data.length from fun i hi=>by rw[Bj.out i hi,kX]);rw[hg0] at ZY;have M9:=zh (show zj g0 (N.take 0)=⟨gn,rv,1,z,⟨f,L,G⟩⟩ from by rw[← hg0];rfl);have EG:=zh (show (zj g0 N).num=gn∧(zj g0 N).rev=rv∧(zj g0 N).mode=1 from by rw[← hg0];exact qi N _);have hf0:z+(iR (N.take 0):Int)≤1048576:=by rw[List.take_zero,Yt];omega
  clear jb Bj hg0;obtain ⟨x0,x1,x2,x3,x4,x5,x6,x7,x8,x9,gq,gu,gj,gl⟩:=fW.out.q;go_wp2_with fail
  go_loopw [23] (fun iv W=>∃ (i:Nat) (si:Sl),iv=.int .i64 (i:Int)∧i≤n∧Hid (z+(iR (N.take i):Int)≤1048576)∧Hid (eO W w.heap.size gn rv 1 (zj g0 (N.take i)).size si (zj g0 (N.take i)).m.live (zj g0 (N.take i)).m.d_)∧Hid (eU W (w.heap.size+2) s f si (zj g0 (N.take i)).m.st)∧Hid (eO W (w.heap.size+1) 0 0 0 0 Sl.nil 0 0)∧Hid (Below w.heap.size w W)) (fun iv _=>n-(intOf iv).toNat)
  case atStart=>exact ⟨0,s,rfl,aq _,zh hf0,by rw[M9.out];exact fW,by rw[M9.out];exact zh (eU.refl _ _ _ _),gN,eM⟩
  obtain ⟨i,si,rfl,hi,B5,oL,Av,Di,iO⟩:=hrel;clear fW gN eM hf0
  by_cases hlt:i<n
  ·
   have i1:(i:Int)<(n:Int):=by omega
   obtain ⟨b,off,rfl,lq,c0,c1,c2,c3⟩:=(iq.out.below iO.out).at hlt;have AY:=zh (GH.out i hi);have pK:=zh (JM.out i hlt);have PW:=Ty.out i hi;have Qk:=HTz.out i hlt;have ZZ:=oT.out (i+1);have hok:=FO.out i hlt;have oC:=zh (Av.out.rd EF.out iO.out);generalize xQ es i=X at c0 c1 c2 c3 lq pK hok Qk;obtain ⟨x,xv⟩:=X;dsimp only at c0 c1 c2 c3 lq pK hok Qk;obtain ⟨xa,xc,rfl,hx1,hx2⟩:=lq.fK;have JJ:x.data.length≤4096:=hok.1;have JL:=zh (fun W=>qA x.data.length W (ak JJ (by decide)));clear lq hok;have hxz:=xj x.data.length;obtain ⟨W1,hW1⟩:∃ W1,wr.alloc (.cells (M2 x (.slice xa x.data.length xc)) 56)=W1:=⟨_,rfl⟩
   have lC:=Tt wr x (.slice xa x.data.length xc);have nk:=BV.new wr x (.slice xa x.data.length xc);rw[hW1] at lC nk;have HD:=zh nk;have fV:=zh lC;clear lC nk;have lD:=zh (oL.out.below fV.out);have rD:=zh (Di.out.below fV.out);have rV:=zh (oC.out.below fV.out);have jT:=zh (zA iO.out fV.out);have hwr:=Di.out.lt;have hws:=fV.out.size;go_upto_region 8 with fail;clear hW1 c0 c1 c2 c3 oL Di iO oC;obtain ⟨d0,d1,d2,d3⟩:=HD.out.q;generalize hm:x.data.length=m at *;have Hm:=zh hm;clear hm;go_wp2_with fail;refine (JL.out _).mono ?_;rintro e w3 ⟨rfl,rfl⟩;generalize TA:zj g0 (N.take i)=gi at *;clear TA;obtain ⟨an,ar,am,az,⟨af,aL,aG⟩⟩:=gi;dsimp only at *;have HZ:=zh PW;have HT:=zh Qk;have HA:=zh ZZ;have Uf:=B5.out;clear x0 x1 x2 x3 x4 x5 x6 x7 x8 x9 gq gu gj gl;have x4:=lD.out.c0;have x5:=lD.out.c1;have x6:=lD.out.c2;have x7:=lD.out.c3
   have x8:=lD.out.c4;have x9:=lD.out.c5;have gq:=lD.out.c6;have gu:=lD.out.c7;have gj:=lD.out.cl;have gl:=lD.out.cg;have x3:=lD.out.n3;have xf:=lD.out.f;have hz3:0≤az∧az≤1048576:=by omega
   obtain ⟨PX,Ir⟩:=hz3;clear PW Qk ZZ Uf
   by_cases sP:1048576-az<(eN m:Int)
   ·
    have e5:decide (1048576-az<(eN m:Int))=true:=aC sP;have jt:=zh (od.out (by have:=HZ.out;have:=HT.out;have:=HA.out;omega));obtain ⟨r0,r1,r2,r3,r4,r5,r6,r7,r8,r9,mW,mC,nB,oJ⟩:=rD.out.q;have rf:=rD.out.f;go_wp2_with fail;change bodyPost _ _ _ _ _ (pts W1 (w.heap.size+1) (zQ 0 0 0 0 Sl.nil 0 0));have hby:=rD.out.all 0 0 0 0 Sl.nil 0 0;have eD:=zh (zD (B:=w.heap.size) (b:=(w.heap.size+1)) (by omega) (zQ 0 0 0 0 Sl.nil 0 0) jT.out);have gW:=jf.out (pts W1 (w.heap.size+1) (zQ 0 0 0 0 Sl.nil 0 0));rw[jt.out];generalize pts W1 (w.heap.size+1) (zQ 0 0 0 0 Sl.nil 0 0)=V at *;exact au (v:=.tuple #[zd 0 0 0 0 Sl.nil 0 0,.int .i64 9]) (by simp[results,Tryz.results12,go_sem,hby.q]) rfl ⟨⟨_,rfl,gW⟩,eD.out⟩
   have e5:decide (1048576-az<(eN m:Int))=false:=aD sP;have CD:=zh (show z+(iR (N.take (i+1)):Int)≤1048576 by have:=HZ.out;have:=HT.out;omega);clear HZ HT HA sP
   cases il:x.del
   ·
    rw[il] at d2;have HP:=zh (zJ7 si ⟨af,aL,aG⟩ ⟨(x.key:Int),(x.ck:Int),az,(m:Int)⟩ W1 rV.out (fun j hj=>ak (AY.out j hj) (by omega)))
    have pV:=zh (show zj g0 (N.take (i+1))=⟨an,ar,am,az+(eN m:Nat),wV ⟨af,aL,aG⟩ ⟨(x.key:Int),(x.ck:Int),az,(m:Int)⟩⟩ by
     rw[pK.out];unfold yS Cx;rw[il,Hm.out];rfl)
    clear pK;generalize wV ⟨af,aL,aG⟩ ⟨(x.key:Int),(x.ck:Int),az,(m:Int)⟩=M4 at *;obtain ⟨bf,bL,bG⟩:=M4;dsimp only at HP;go_wp2_with fail;refine (HP.out).mono ?_;rintro e w5 ⟨⟨s4,rfl,ho⟩,hb4⟩;have jN:=zh (show eU w5 (w.heap.size+2) s f s4 bf from .inr (ho.mono (by omega)));have fJ:=zh (lD.out.below hb4);have jx:=zh (rD.out.below hb4);have gH:=zh (zA jT.out hb4);clear x3 x4 x5 x6 x7 x8 x9 gq gu gj gl xf;clear d0 d1 d2 d3 lD rD jT rV HD Av;have x4:=fJ.out.c0;have x5:=fJ.out.c1;have x6:=fJ.out.c2;have x7:=fJ.out.c3;have x8:=fJ.out.c4;have x9:=fJ.out.c5;have gq:=fJ.out.c6;have gu:=fJ.out.c7;have gj:=fJ.out.cl;have gl:=fJ.out.cg;have x3:=fJ.out.n3;have xf:=fJ.out.f;go_upto_region 14 with fail;change Code.wp _ _ _ _ (pts w5 w.heap.size (yu s4 bL bG));have iQ:=zh (fJ.out.map s4 bL bG)
    have BW:=zh (jx.out.eE (show w.heap.size+1≠w.heap.size by omega) (yu s4 bL bG));have iZ:=zh (zD (B:=w.heap.size) (b:=w.heap.size) (ag _) (yu s4 bL bG) gH.out);have nr:=zh (jN.out.pts (show w.heap.size<w.heap.size+2 by omega) (yu s4 bL bG));generalize pts w5 w.heap.size (yu s4 bL bG)=w6 at *;clear fJ jx gH jN x3 x4 x5 x6 x7 x8 x9 gq gu gj gl xf;have x3:=iQ.out.n3;have xf:=iQ.out.f;go_upto_region 15 with fail;change Code.wp _ _ _ _ (pts w6 w.heap.size [(3,.int .i64 (az+(eN m:Nat)))]);have jd:=zh (iQ.out.Gr (az+(eN m:Nat)));have JN:=zh (BW.out.eE (show w.heap.size+1≠w.heap.size by omega) [(3,.int .i64 (az+(eN m:Nat)))]);have sY:=zh (zD (B:=w.heap.size) (b:=w.heap.size) (ag _) [(3,.int .i64 (az+(eN m:Nat)))] iZ.out);have Cv:=zh (nr.out.pts (show w.heap.size<w.heap.size+2 by omega) [(3,.int .i64 (az+(eN m:Nat)))])
    generalize pts w6 w.heap.size [(3,.int .i64 (az+(eN m:Nat)))]=w7 at *;clear iQ BW iZ nr x3 xf;go_wp2_with fail
    go_roundw
    case rel =>
     refine ⟨i+1,s4,by go_num,by omega,CD,?_,?_,JN,sY⟩
     ·
      rw[pV.out];exact jd
     rw[pV.out];exact Cv
    case measure=>simp[intOf];omega
   rw[il] at d2;have HP:=zh (X0 si ⟨af,aL,aG⟩ (x.key:Int) W1 rV.out (fun j hj=>ak (AY.out j hj) (by omega)))
   have pV:=zh (show zj g0 (N.take (i+1))=⟨an,ar,am,az+(eN m:Nat),xF (yP ⟨af,aL,aG⟩ (x.key:Int)) (eN m:Nat)⟩ by
    rw[pK.out];unfold yS;rw[il,Hm.out];rfl)
   have M_:=zh (fun j hj=>ak (qF ⟨af,aL,aG⟩ (x.key:Int) AY.out j hj) (show 9000≤10000 by decide));clear pK;generalize yP ⟨af,aL,aG⟩ (x.key:Int)=M3 at *;obtain ⟨df,dL,dG⟩:=M3;dsimp only at HP;go_wp2_with fail;refine (HP.out).mono ?_;rintro e w4 ⟨⟨s5,rfl,ho⟩,hb4⟩;have FP:=zh (vp s5 ⟨df,dL,dG⟩ (eN m:Nat) w4 ho.rd M_.out);have hw4:=hb4.size;clear ho;generalize xF ⟨df,dL,dG⟩ (eN m:Nat)=M4 at *;obtain ⟨bf,bL,bG⟩:=M4;dsimp only at FP;go_wp2_with fail;refine (FP.out).mono ?_;rintro e w5 ⟨⟨s4,rfl,ho⟩,hb5⟩;replace hb4:=zA hb4 hb5;have jN:=zh (show eU w5 (w.heap.size+2) s f s4 bf from .inr (ho.mono (by omega)));have fJ:=zh (lD.out.below hb4);have jx:=zh (rD.out.below hb4);have gH:=zh (zA jT.out hb4);clear x3 x4 x5 x6 x7 x8 x9 gq gu gj gl xf;clear d0 d1 d2 d3 lD rD jT rV HD Av;have x4:=fJ.out.c0;have x5:=fJ.out.c1;have x6:=fJ.out.c2
   have x7:=fJ.out.c3;have x8:=fJ.out.c4;have x9:=fJ.out.c5;have gq:=fJ.out.c6;have gu:=fJ.out.c7;have gj:=fJ.out.cl;have gl:=fJ.out.cg;have x3:=fJ.out.n3;have xf:=fJ.out.f;go_upto_region 14 with fail;change Code.wp _ _ _ _ (pts w5 w.heap.size (yu s4 bL bG));have iQ:=zh (fJ.out.map s4 bL bG);have BW:=zh (jx.out.eE (show w.heap.size+1≠w.heap.size by omega) (yu s4 bL bG));have iZ:=zh (zD (B:=w.heap.size) (b:=w.heap.size) (ag _) (yu s4 bL bG) gH.out);have nr:=zh (jN.out.pts (show w.heap.size<w.heap.size+2 by omega) (yu s4 bL bG));generalize pts w5 w.heap.size (yu s4 bL bG)=w6 at *;clear fJ jx gH jN x3 x4 x5 x6 x7 x8 x9 gq gu gj gl xf;have x3:=iQ.out.n3;have xf:=iQ.out.f;go_upto_region 15 with fail;change Code.wp _ _ _ _ (pts w6 w.heap.size [(3,.int .i64 (az+(eN m:Nat)))]);have jd:=zh (iQ.out.Gr (az+(eN m:Nat)))
   have JN:=zh (BW.out.eE (show w.heap.size+1≠w.heap.size by omega) [(3,.int .i64 (az+(eN m:Nat)))]);have sY:=zh (zD (B:=w.heap.size) (b:=w.heap.size) (ag _) [(3,.int .i64 (az+(eN m:Nat)))] iZ.out);have Cv:=zh (nr.out.pts (show w.heap.size<w.heap.size+2 by omega) [(3,.int .i64 (az+(eN m:Nat)))]);generalize pts w6 w.heap.size [(3,.int .i64 (az+(eN m:Nat)))]=w7 at *;clear iQ BW iZ nr x3 xf;go_wp2_with fail
   go_roundw
   case rel =>
    refine ⟨i+1,s4,by go_num,by omega,CD,?_,?_,JN,sY⟩
    ·
     rw[pV.out];exact jd
    rw[pV.out];exact Cv
   case measure=>simp[intOf];omega
  have hin:i=n:=by omega
  rw[hin,mP.out] at oL Av B5;rw[hin];have jt:=zh (ZY.out B5.out);have oC:=zh (Av.out.rd EF.out iO.out)
  have Z5:=zh (show ∀ j,j<8→((zj g0 N).m.st j).length≤10000 from fun j hj=>by
   have:=GH.out n (ag _) j hj
   rw[mP.out] at this
   omega)
  clear hin hi;obtain ⟨Da,mK,Ij⟩:=EG.out;generalize TB:zj g0 N=gA at *;obtain ⟨an,ar,am,az,⟨af,aL,aG⟩⟩:=gA;dsimp only at oL Av Da mK Ij jt oC Z5;subst Da mK Ij;clear TB;have FP:=zh (vp si ⟨af,aL,aG⟩ 0 wr oC.out Z5.out);rw[uB] at FP;dsimp only at FP;have aiu:=Di.out.lt;obtain ⟨x4,x5,x6,x7,x8,x9,gq,gu,gj,gl⟩:=oL.out.q;have xf:=oL.out.f;go_wp2_with fail;refine (FP.out).mono ?_;rintro e w3 ⟨⟨s3,rfl,rL⟩,hb3⟩;have iw:=zh (oL.out.below hb3);have nh:=zh (Di.out.below hb3);have gy:=zh (zA iO.out hb3);have mg:=zh (rL.mono (show w.heap.size+2≤wr.heap.size by omega));clear hb3 rL oL Di iO Av FP oC xf x4 x5 x6 x7 x8 x9 gq gu gj gl;obtain ⟨x4,x5,x6,x7,x8,x9,gq,gu,gj,gl⟩:=iw.out.q;have xf:=iw.out.f;go_upto_region 17 with fail;change Code.wp _ _ _ _ (pts w3 w.heap.size (yu s3 aL aG));have jc:=zh (iw.out.map s3 aL aG)
  have mN:=zh (nh.out.eE (show w.heap.size+1≠w.heap.size by omega) (yu s3 aL aG));have gD:=zh (zD (B:=w.heap.size) (b:=w.heap.size) (ag _) (yu s3 aL aG) gy.out);have jM:=zh (mg.out.pts (show w.heap.size<w.heap.size+2 by omega) (yu s3 aL aG));generalize pts w3 w.heap.size (yu s3 aL aG)=w4 at *;clear iw nh gy mg xf x4 x5 x6 x7 x8 x9 gq gu gj gl;obtain ⟨x0,x1,x2,x3,x4,x5,x6,x7,x8,x9,gq,gu,gj,gl⟩:=jc.out.q;obtain ⟨r0,r1,r2,r3,r4,r5,r6,r7,r8,r9,mW,mC,nB,oJ⟩:=mN.out.q;have rf:=mN.out.f;go_wp2_with fail;change bodyPost _ _ _ _ _ (pts w4 (w.heap.size+1) (zQ an ar 1 az s3 aL aG));have hby:=mN.out.all an ar 1 az s3 aL aG;have eD:=zh (zD (B:=w.heap.size) (b:=(w.heap.size+1)) (by omega) (zQ an ar 1 az s3 aL aG) gD.out)
  have gW:=(jM.out.pts (show w.heap.size+1<w.heap.size+2 by omega) (zQ an ar 1 az s3 aL aG)).mono (show w.heap.size≤w.heap.size+2 by omega);rw[jt.out];generalize pts w4 (w.heap.size+1) (zQ an ar 1 az s3 aL aG)=V at *;exact au (v:=.tuple #[zd an ar 1 az s3 aL aG,.int .i64 0]) (by simp[results,Tryz.results12,go_sem,hby.q]) rfl ⟨⟨_,rfl,gW⟩,eD.out⟩
 have jt:=zh (show TG=(12,ix) by rw[j_.out,ai nU]);have e1:(md==1)=false:=beq_eq_false_iff_ne.2 nU;clear j_;obtain ⟨x0,x1,x2,x3,x4,x5,x6,x7,x8,x9,gq,gu,gj,gl⟩:=fW.out.q;obtain ⟨r0,r1,r2,r3,r4,r5,r6,r7,r8,r9,mW,mC,nB,oJ⟩:=gN.out.q;have rf:=gN.out.f;go_wp2_with fail;change bodyPost _ _ _ _ _ (pts w2 (w.heap.size+1) (zQ 0 0 0 0 Sl.nil 0 0));have hby:=gN.out.all 0 0 0 0 Sl.nil 0 0;have eD:=zh (zD (B:=w.heap.size) (b:=(w.heap.size+1)) (by omega) (zQ 0 0 0 0 Sl.nil 0 0) eM.out);have gW:=jf.out (pts w2 (w.heap.size+1) (zQ 0 0 0 0 Sl.nil 0 0));rw[jt.out];generalize pts w2 (w.heap.size+1) (zQ 0 0 0 0 Sl.nil 0 0)=V at *;exact au (v:=.tuple #[zd 0 0 0 0 Sl.nil 0 0,.int .i64 12]) (by simp[results,Tryz.results12,go_sem,hby.q]) rfl ⟨⟨_,rfl,gW⟩,eD.out⟩
end Go.Proofs.YtcgfilmmokmdjaaGreat
