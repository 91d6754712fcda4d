import Derived.Test.YtcgfilmmokmdjaaGreatHd
set_option linter.all false
set_option maxRecDepth 100000
set_option maxHeartbeats 32000000
namespace Go.Proofs.YtcgfilmmokmdjaaGreat
open Go.Proofs.Tryz
open Go.RowKit
def zHF (l r:List Nd):jt (l++r)=jt l+jt r:=by
 induction l with
 |nil=>simp[jt]
 |cons x l ih=>rw[List.cons_append,vj,vj,ih,cS]
def zKk (l:List Nd) (k:Nat):jt (l.take k)<=jt l:=by
 have h:=zHF (l.take k) (l.drop k);rw[b7] at h;omega
def us (x:Nd) (a:Option Addr) (cap:Nat) (w:World):Calls prog 52 #[LU x (.slice a x.data.length cap)] w fun e w'=>e=.returned (.bool (decide x.ok))/\Below w.heap.size w w':=by
 obtain ⟨k,c,d,l⟩:=x;dsimp only;have HB:Hid (Below w.heap.size w (w.alloc (.cells #[.int .u64 (k:Int),.int .u32 (c:Int),.bool d,.slice a l.length cap] 56))):=zh ((aj _ _).alloc (ag _) _)
 have HO:=zh (show decide (Nd.ok ⟨k,c,d,l⟩)=(decide ((l.length:Int)<=4096)&&!(d&&decide (0<(l.length:Int)))) by
  unfold Nd.ok
  dsimp only
  have e:(l=[])↔¬ 0<l.length:=by rw[<- List.length_eq_zero_iff];omega
  cases d
  ·simp only[dC,Bool.not_false,Bool.and_true,reduceCtorEq,false_imp_iff,and_true]
   exact decide_eq_decide.2 (by omega)
  simp only[bU,forall_const,e]
  rw[dt,aR,aO,aR,Bool.not_eq_true',decide_eq_false_iff_not]
  omega)
 generalize decide (Nd.ok ⟨k,c,d,l⟩)=ob at *;generalize l.length=n at *
 go_enter func52,ntmps52
 by_cases h1:(n:Int)<=4096
 ·have d1:decide ((n:Int)<=4096)=true:=aD h1
  cases d
  ·go_wp2_with fail;go_ret;exact ⟨zJ (by rw[HO.o,d1];rfl),HB.o⟩
  by_cases h2:0<(n:Int)
  ·have d2:decide (0<(n:Int))=true:=aD h2;go_wp2_with fail;go_ret;have h3:0<n:=by omega
   exact ⟨zJ (by rw[HO.o,d1,d2];simp[h3]),HB.o⟩
  have d2:decide (0<(n:Int))=false:=aC h2;go_wp2_with fail;go_ret;have h3:¬ 0<n:=by omega
  exact ⟨zJ (by rw[HO.o,d1,d2];simp[h3]),HB.o⟩
 have d1:decide ((n:Int)<=4096)=false:=aC h1;go_wp2_with fail;go_ret;exact ⟨zJ (by rw[HO.o,d1];rfl),HB.o⟩
def zLB (x:Nd) (a:Option Addr) (cap:Nat) (w:World):Calls prog 51 #[LU x (.slice a x.data.length cap)] w fun e w'=>e=.returned (.bool (!decide x.ok))/\Below w.heap.size w w':=by
 have HV:=zh (fun W=>us x a cap W);obtain ⟨W0,hW0⟩:∃ W0,w.alloc (.cells (Jw x (.slice a x.data.length cap)) 56)=W0:=⟨_,rfl⟩
 have mU:=qH w x (.slice a x.data.length cap);have lu:=Bf.new w x (.slice a x.data.length cap);rw[hW0] at mU lu;have HD:=zh lu;have HB:=zh mU;clear mU lu;generalize decide x.ok=ob at *;generalize x.data.length=m at *
 go_enter func51,ntmps51
 go_upto_region 1 with fail;clear hW0;obtain ⟨d0,d1,d2,d3⟩:=HD.o.q;go_wp2_with fail;refine (HV.o _).mono ?_;rintro e w1 ⟨rfl,hb⟩;have eV:=zh (zA HB.o hb);clear hb;go_wp2_with fail;go_ret;exact ⟨rfl,eV.o⟩
def zKl (v:Value) (es:List (Nd×Value)) (w:World) (h:mJ w v es) :
  Calls prog 90 #[v,.func (.func 51) #[] #[]] w fun e w'=>(∃ k:Int,e=.returned (.int .i64 k)/\decide (0<=k)=!Fm (es.map (·.1)))/\Below w.heap.size w w':=by
 obtain ⟨a,cap,rfl,h1,h2⟩:=h.shape
 have HT:=zh (show (∀ j,j<es.length->decide (yw es j).1.ok=true)->Fm (es.map (·.1))=true from fun hh=>(qD _).2 (fun x hx=>by
  obtain ⟨p,hp,rfl⟩:=List.mem_map.1 hx
  obtain ⟨j,hj,rfl⟩:=cO hp
  have:=aZ (hh j hj)
  unfold yw at this
  rw[aw,aA hj] at this
  exact this))
 have HF:=zh (show ∀ j,j<es.length->decide (yw es j).1.ok=false->Fm (es.map (·.1))=false from fun j hj hf=>by
  rw[Bool.eq_false_iff]
  intro ht
  exact cN hf ((qD _).1 ht _ (cB (vh hj))))
 have hm:=C7 h1 h2;generalize hn:es.length=n at *;have Hr:=zh h;clear h h1 h2 hn
 go_enter func90,ntmps90
 go_wp2_with fail
 go_loopw [8] (fun i wr=>∃ k:Nat,k<=n/\i=.int .i64 (k:Int)/\(∀ j,j<k->decide (yw es j).1.ok=true)/\Below w.heap.size w wr) (fun i _=>n-(intOf i).toNat)
 case atStart=>exact ⟨0,aq _,rfl,fun j hj=>absurd hj (by omega),aj _ _⟩
 obtain ⟨k,hk,rfl,hok,hb⟩:=hrel;have nr:=zh hok;have Hb:=zh hb;have hB:=hb.size;clear hok hb
 by_cases hlt:k<n
 ·have hr:=Hr.o.bb Hb.o;obtain ⟨b,off,rfl,lj,c0,c1,c2,c3⟩:=hr.at hlt;have sY:=zh (HF.o k hlt)
  have Cr:=zh (show decide (yw es k).1.ok=true->∀ j,j<k+1->decide (yw es j).1.ok=true from fun ho j hj=>by
   by_cases e:j=k
   ·subst e;exact ho
   exact nr.o j (by omega))
  generalize yw es k=X at c0 c1 c2 c3 lj sY Cr;obtain ⟨x,xv⟩:=X;dsimp only at c0 c1 c2 c3 lj sY Cr;obtain ⟨xa,xc,rfl,hx1,hx2⟩:=lj.fO;have HV:=zh fun w=>zLB x xa xc w
  clear lj;generalize x.data.length=xm at *;generalize decide x.ok=ob at *;clear hr;go_wp2_with fail;refine (HV.o _).mono ?_;rintro e w1 ⟨rfl,hb1⟩;have nS:=zh (zA Hb.o hb1)
  cases ob
  ·clear hb1;go_wp2_with fail;go_ret;refine ⟨⟨k,rfl,?_⟩,nS.o⟩;rw[sY.o (by trivial)];simp
  clear hb1;go_wp2_with fail;exact ⟨⟨k+1,by omega,by go_num,Cr.o (by trivial),nS.o⟩,by simp[intOf];omega⟩
 obtain rfl:k=n:=by omega
 go_wp2_with fail;go_ret;refine ⟨⟨-1,rfl,?_⟩,Hb.o⟩;rw[HT.o nr.o];rfl
def zIU (v:Value) (es:List (Nd×Value)) (w:World) (h:mJ w v es) :
  Calls prog 50 #[v,.func (.func 51) #[] #[]] w fun e w'=>e=.returned (.bool (!Fm (es.map (·.1))))/\Below w.heap.size w w':=by
 have HA:=zh (zKl v es w h);obtain ⟨a,cap,rfl,h1,h2⟩:=h.shape;clear h h1 h2
 go_enter func50,ntmps50
 go_wp2_with fail;refine HA.o.mono ?_;rintro e w1 ⟨⟨k,rfl,hk⟩,hb1⟩;have Hk:=zh hk;have nS:=zh hb1;clear hk hb1;go_wp2_with fail;go_ret;exact ⟨zJ Hk.o,nS.o⟩
def zH4 (g:Gn) (s:Sl) (v:Value) (es:List (Nd×Value)) (K:Nat) (w:World) (h:fN w s g.m.st) (hs:∀ i,i<8->(g.m.st i).length<=K) (hr:mJ w v es) (hK:K+es.length<=9000) :
  Calls prog 12 #[ze g.num g.rev g.mode g.size s g.m.live g.m.ew,v] w (NC w (yZ g (es.map (·.1)))):=by
 obtain ⟨va,vc,rfl,Ai,hv2⟩:=hr.shape;have Fy:∀ i,i<8->(g.m.st i).length<=10000:=fun i hi=>ak (hs i hi) (by omega)
 have HV:=zh (fun W (hb:Below w.heap.size w W)=>uQ g s W (h.bb hb) Fy);have HCf:=zh (fun W (hb:Below w.heap.size w W)=>zIU _ es W (hr.bb hb));have iw:=zh hr;have Gq:=zh h;have jC:Hid (∀ W,fA W w.heap.size Sl.nil gX.m.st):=zh (fun W=>fA.nil W _);have HG:Hid (yZ g (es.map (·.1))=if we g=true/\Fm (es.map (·.1))=true then (if g.mode=1 then (if g.size+(jt (es.map (·.1)):Int)<=1048576 then (0,zm g (es.map (·.1))) else (9,gX)) else (12,gX)) else (1,gX)):=zh (rfl);have jb:Hid (we g=true->16<=g.size/\g.size<=1048576):=zh (fun hv=>⟨((yM g).1 hv).size.1,((yM g).1 hv).size.2.1⟩);have jJ:=zh (fun i (hi:i<=es.length)=>ws ((es.map (·.1)).take i) g hs);have C0:=zh (fun i (hi:i<es.length)=>@zCU es i hi);have rB:Hid (∀ i,jt ((es.map (·.1)).take i)<=jt (es.map (·.1))):=zh (fun i=>zKk _ i)
 have nN:Hid ((es.map (·.1)).take es.length=es.map (·.1)):=zh (aS (by rw[aH];omega));have pI:Hid (Fm (es.map (·.1))=true->∀ i,i<es.length->(yw es i).1.ok):=zh (fun hh i hi=>(qD _).1 hh _ (cB (vh hi)));clear hr h hs Fy;generalize hN:es.map (·.1)=N at *;generalize hnn:es.length=n at *;have WB:=zh hnn;clear hnn hN;obtain ⟨gn,rv,md,z,⟨f,L,G⟩⟩:=g;generalize rh:(⟨gn,rv,md,z,⟨f,L,G⟩⟩:Gn)=g at *;have WC:=zh rh;obtain ⟨W,hW,fJ,hbr,fS⟩:=vS w gn rv md z s L G 38;have HX:=zh fJ;have HR:=zh hbr;have HB:=zh fS;clear fJ hbr fS;generalize yZ g N=TG at *;generalize we g=vb at *;generalize Fm N=ob at *;subst rh;dsimp only at *
 go_enter func12,ntmps12
 go_upto_region 1 with fail;change Code.wp _ _ _ _ ((w.alloc (.cells (zU gn rv md z s L G) 38)).alloc (.cells (zU 0 0 0 0 Sl.nil 0 0) 38));rw[hW];clear hW;obtain ⟨x0,x1,x2,x3,x4,x5,x6,x7,x8,x9,gP,gQ,gK,gM⟩:=HX.o.q;go_wp2_with fail;refine (HV.o _ HB.o).mono ?_;rintro e w1 ⟨rfl,hb1⟩;have fG:=zh (HX.o.bb hb1);have fL:=zh (HR.o.bb hb1);have eV:=zh (zA HB.o hb1);have hlr:w.heap.size+1<W.heap.size:=HR.o.lt;clear x0 x1 x2 x3 x4 x5 x6 x7 x8 x9 gP gQ gK gM;clear hb1 HX HR HB HV
 cases vb
 ·have jM:=zh (show TG=(1,gX) by rw[HG.o,ai (fun h=>by cases h.1)]);obtain ⟨r0,r1,r2,r3,r4,r5,r6,r7,r8,r9,nL,mD,mR,pK⟩:=fL.o.q;have rf:=fL.o.f;go_wp2_with fail;change bodyPost _ _ _ _ _ (pts w1 (w.heap.size+1) (zS 0 0 0 0 Sl.nil 0 0));have hby:=fL.o.all 0 0 0 0 Sl.nil 0 0;have eN:=zh (zC (B:=w.heap.size) (b:=(w.heap.size+1)) (by omega) (zS 0 0 0 0 Sl.nil 0 0) eV.o);have iH:=jC.o (pts w1 (w.heap.size+1) (zS 0 0 0 0 Sl.nil 0 0));rw[jM.o];generalize pts w1 (w.heap.size+1) (zS 0 0 0 0 Sl.nil 0 0)=V at *;exact au (v:=.tuple #[ze 0 0 0 0 Sl.nil 0 0,.int .i64 1]) (by simp[results,results12,go_sem,hby.q]) rfl ⟨⟨_,rfl,iH⟩,eN.o⟩
 obtain ⟨hz1,hz2⟩:=jb.o rfl;go_wp2_with fail;refine (HCf.o _ eV.o).mono ?_;rintro e w2 ⟨rfl,hb2⟩;have fK:=zh (fG.o.bb hb2);have iq:=zh (fL.o.bb hb2);have eX:=zh (zA eV.o hb2);clear hb2 fG fL eV HCf
 cases ob
 ·have jM:=zh (show TG=(1,gX) by rw[HG.o,ai (fun h=>by cases h.2)]);obtain ⟨r0,r1,r2,r3,r4,r5,r6,r7,r8,r9,nL,mD,mR,pK⟩:=iq.o.q;have rf:=iq.o.f;go_wp2_with fail;change bodyPost _ _ _ _ _ (pts w2 (w.heap.size+1) (zS 0 0 0 0 Sl.nil 0 0));have hby:=iq.o.all 0 0 0 0 Sl.nil 0 0;have eN:=zh (zC (B:=w.heap.size) (b:=(w.heap.size+1)) (by omega) (zS 0 0 0 0 Sl.nil 0 0) eX.o);have iH:=jC.o (pts w2 (w.heap.size+1) (zS 0 0 0 0 Sl.nil 0 0));rw[jM.o];generalize pts w2 (w.heap.size+1) (zS 0 0 0 0 Sl.nil 0 0)=V at *;exact au (v:=.tuple #[ze 0 0 0 0 Sl.nil 0 0,.int .i64 1]) (by simp[results,results12,go_sem,hby.q]) rfl ⟨⟨_,rfl,iH⟩,eN.o⟩
 have lW:=zh (show TG=(if md=1 then (if z+(jt N:Int)<=1048576 then (0,zm ⟨gn,rv,md,z,⟨f,L,G⟩⟩ N) else (9,gX)) else (12,gX)) by rw[HG.o,ah ⟨by trivial,by trivial⟩]);have IJ:=zh (pI.o rfl);clear HG pI
 by_cases pF:md=1
 ·have e1:(md==1)=true:=by rw[pF];rfl
  have HPF:Hid (z+(jt N:Int)<=1048576->TG=(0,zm ⟨gn,rv,md,z,⟨f,L,G⟩⟩ N)):=zh (fun hf=>by rw[lW.o,ah pF,ah hf]);have oQ:Hid (¬ z+(jt N:Int)<=1048576->TG=(9,gX)):=zh (fun hf=>by rw[lW.o,ah pF,ai hf]);clear lW;subst pF;clear e1;obtain ⟨g0,hg0⟩:∃ g0:Gn,(⟨gn,rv,1,z,⟨f,L,G⟩⟩:Gn)=g0:=⟨_,rfl⟩
  have Jy:=zh (show ∀ i,i<=n->∀ j,j<8->((zm g0 (N.take i)).m.st j).length<=9000 from fun i hi j hj=>by
   have h1:=jJ.o i hi j hj
   have h2:(N.take i).length<=n:=by rw[aB];omega
   rw[<- hg0];omega)
  have L9:Hid (∀ i,i<n->zm g0 (N.take (i+1))=yp (zm g0 (N.take i)) (yw es i).1):=zh (fun i hi=>by rw[C0.o i hi,zBV]);have WE:Hid (∀ i,i<=n->(zm g0 (N.take i)).size=z+(jt (N.take i):Int)):=zh (fun i _=>by rw[vm,<- hg0]);have HTz:Hid (∀ i,i<n->jt (N.take (i+1))=jt (N.take i)+eY (yw es i).1.data.length):=zh (fun i hi=>by rw[C0.o i hi,SI]);rw[hg0] at HPF;have PB:Hid (zm g0 (N.take 0)=⟨gn,rv,1,z,⟨f,L,G⟩⟩):=zh (by rw[<- hg0];rfl);have Gr:Hid ((zm g0 N).num=gn/\(zm g0 N).rev=rv/\(zm g0 N).mode=1):=zh (by rw[<- hg0];exact kW N _);have hf0:z+(jt (N.take 0):Int)<=1048576:=by rw[List.take_zero,zHg];omega
  clear jJ C0 hg0;obtain ⟨x0,x1,x2,x3,x4,x5,x6,x7,x8,x9,gP,gQ,gK,gM⟩:=fK.o.q;go_wp2_with fail
  go_loopw [23] (fun iv W=>∃ (i:Nat) (si:Sl),iv=.int .i64 (i:Int)/\i<=n/\Hid (z+(jt (N.take i):Int)<=1048576)/\Hid (eU W w.heap.size gn rv 1 (zm g0 (N.take i)).size si (zm g0 (N.take i)).m.live (zm g0 (N.take i)).m.ew)/\Hid (fl W (w.heap.size+2) s f si (zm g0 (N.take i)).m.st)/\Hid (eU W (w.heap.size+1) 0 0 0 0 Sl.nil 0 0)/\Hid (Below w.heap.size w W)) (fun iv _=>n-(intOf iv).toNat)
  case atStart=>exact ⟨0,s,rfl,aq _,zh hf0,by rw[PB.o];exact fK,by rw[PB.o];exact zh (fl.refl _ _ _ _),iq,eX⟩
  obtain ⟨i,si,rfl,hi,Dv,D8,C1,EJ,ic⟩:=hrel;clear fK iq eX hf0
  by_cases hlt:i<n
  ·have i1:(i:Int)<(n:Int):=by omega
   obtain ⟨b,off,rfl,lj,c0,c1,c2,c3⟩:=(iw.o.bb ic.o).at hlt;have D4:=zh (Jy.o i hi);have rC:=zh (L9.o i hlt);have S0:=WE.o i hi;have Ti:=HTz.o i hlt;have hAi:=rB.o (i+1);have hok:=IJ.o i hlt;have mH:=zh (C1.o.rd Gq.o ic.o);generalize yw es i=X at c0 c1 c2 c3 lj rC hok Ti;obtain ⟨x,xv⟩:=X;dsimp only at c0 c1 c2 c3 lj rC hok Ti;obtain ⟨xa,xc,rfl,hx1,hx2⟩:=lj.fO;have LX:x.data.length<=4096:=hok.1;have LZ:=zh (fun W=>qm x.data.length W (ak LX (by decide)));clear lj hok;have hxz:=wI x.data.length;obtain ⟨W1,hW1⟩:∃ W1,wr.alloc (.cells (Jw x (.slice xa x.data.length xc)) 56)=W1:=⟨_,rfl⟩
   have mU:=qH wr x (.slice xa x.data.length xc);have lu:=Bf.new wr x (.slice xa x.data.length xc);rw[hW1] at mU lu;have HD:=zh lu;have fH:=zh mU;clear mU lu;have mo:=zh (D8.o.bb fH.o);have sX:=zh (EJ.o.bb fH.o);have Ao:=zh (mH.o.bb fH.o);have jZ:=zh (zA ic.o fH.o);have hwr:=EJ.o.lt;have hws:=fH.o.size;go_upto_region 8 with fail;clear hW1 c0 c1 c2 c3 D8 EJ ic mH;obtain ⟨d0,d1,d2,d3⟩:=HD.o.q;generalize hm:x.data.length=m at *;have Hm:=zh hm;clear hm;go_wp2_with fail;refine (LZ.o _).mono ?_;rintro e w3 ⟨rfl,rfl⟩;generalize WH:zm g0 (N.take i)=gi at *;clear WH;obtain ⟨an,ar,am,az,⟨af,aL,aG⟩⟩:=gi;dsimp only at *;have HZ:=zh S0;have HT:=zh Ti;have HA:=zh hAi;have Xr:=Dv.o;clear x0 x1 x2 x3 x4 x5 x6 x7 x8 x9 gP gQ gK gM;have x4:=mo.o.c0;have x5:=mo.o.c1;have x6:=mo.o.c2;have x7:=mo.o.c3
   have x8:=mo.o.c4;have x9:=mo.o.c5;have gP:=mo.o.c6;have gQ:=mo.o.c7;have gK:=mo.o.cl;have gM:=mo.o.cg;have x3:=mo.o.n3;have xf:=mo.o.f;have hz3:0<=az/\az<=1048576:=by omega
   obtain ⟨S1,Kv⟩:=hz3;clear S0 Ti hAi Xr
   by_cases Ci:1048576-az<(eY m:Int)
   ·have e5:decide (1048576-az<(eY m:Int))=true:=aD Ci;have jM:=zh (oQ.o (by have:=HZ.o;have:=HT.o;have:=HA.o;omega));obtain ⟨r0,r1,r2,r3,r4,r5,r6,r7,r8,r9,nL,mD,mR,pK⟩:=sX.o.q;have rf:=sX.o.f;go_wp2_with fail;change bodyPost _ _ _ _ _ (pts W1 (w.heap.size+1) (zS 0 0 0 0 Sl.nil 0 0));have hby:=sX.o.all 0 0 0 0 Sl.nil 0 0;have eN:=zh (zC (B:=w.heap.size) (b:=(w.heap.size+1)) (by omega) (zS 0 0 0 0 Sl.nil 0 0) jZ.o);have iH:=jC.o (pts W1 (w.heap.size+1) (zS 0 0 0 0 Sl.nil 0 0));rw[jM.o];generalize pts W1 (w.heap.size+1) (zS 0 0 0 0 Sl.nil 0 0)=V at *;exact au (v:=.tuple #[ze 0 0 0 0 Sl.nil 0 0,.int .i64 9]) (by simp[results,results12,go_sem,hby.q]) rfl ⟨⟨_,rfl,iH⟩,eN.o⟩
   have e5:decide (1048576-az<(eY m:Int))=false:=aC Ci;have D7:=zh (show z+(jt (N.take (i+1)):Int)<=1048576 by have:=HZ.o;have:=HT.o;omega);clear HZ HT HA Ci
   cases iz:x.del
   ·rw[iz] at d2;have HP:=zh (zLg si ⟨af,aL,aG⟩ ⟨(x.key:Int),(x.ck:Int),az,(m:Int)⟩ W1 Ao.o (fun j hj=>ak (D4.o j hj) (by omega)))
    have sJ:=zh (show zm g0 (N.take (i+1))=⟨an,ar,am,az+(eY m:Nat),wv ⟨af,aL,aG⟩ ⟨(x.key:Int),(x.ck:Int),az,(m:Int)⟩⟩ by
     rw[rC.o];unfold yp DZ;rw[iz,Hm.o];rfl)
    clear rC;generalize wv ⟨af,aL,aG⟩ ⟨(x.key:Int),(x.ck:Int),az,(m:Int)⟩=M4 at *;obtain ⟨bf,bL,bG⟩:=M4;dsimp only at HP;go_wp2_with fail;refine (HP.o).mono ?_;rintro e w5 ⟨⟨s4,rfl,ho⟩,hb4⟩;have jA:Hid (fl w5 (w.heap.size+2) s f s4 bf):=zh (.inr (ho.mono (by omega)));have gj:=zh (mo.o.bb hb4);have jN:=zh (sX.o.bb hb4);have gW:=zh (zA jZ.o hb4);clear x3 x4 x5 x6 x7 x8 x9 gP gQ gK gM xf;clear d0 d1 d2 d3 mo sX jZ Ao HD C1;have x4:=gj.o.c0;have x5:=gj.o.c1;have x6:=gj.o.c2;have x7:=gj.o.c3;have x8:=gj.o.c4;have x9:=gj.o.c5;have gP:=gj.o.c6;have gQ:=gj.o.c7;have gK:=gj.o.cl;have gM:=gj.o.cg;have x3:=gj.o.n3;have xf:=gj.o.f;go_upto_region 14 with fail;change Code.wp _ _ _ _ (pts w5 w.heap.size (xN s4 bL bG));have jr:=zh (gj.o.map s4 bL bG)
    have Dq:=zh (jN.o.eL (show w.heap.size+1≠w.heap.size by omega) (xN s4 bL bG));have jH:=zh (zC (B:=w.heap.size) (b:=w.heap.size) (ag _) (xN s4 bL bG) gW.o);have o7:=zh (jA.o.pts (show w.heap.size<w.heap.size+2 by omega) (xN s4 bL bG));generalize pts w5 w.heap.size (xN s4 bL bG)=w6 at *;clear gj jN gW jA x3 x4 x5 x6 x7 x8 x9 gP gQ gK gM xf;have x3:=jr.o.n3;have xf:=jr.o.f;go_upto_region 15 with fail;change Code.wp _ _ _ _ (pts w6 w.heap.size [(3,.int .i64 (az+(eY m:Nat)))]);have jQ:=zh (jr.o.Jq (az+(eY m:Nat)));have L_:=zh (Dq.o.eL (show w.heap.size+1≠w.heap.size by omega) [(3,.int .i64 (az+(eY m:Nat)))]);have AO:=zh (zC (B:=w.heap.size) (b:=w.heap.size) (ag _) [(3,.int .i64 (az+(eY m:Nat)))] jH.o);have Dk:=zh (o7.o.pts (show w.heap.size<w.heap.size+2 by omega) [(3,.int .i64 (az+(eY m:Nat)))])
    generalize pts w6 w.heap.size [(3,.int .i64 (az+(eY m:Nat)))]=w7 at *;clear jr Dq jH o7 x3 xf;go_wp2_with fail
    go_roundw
    case rel =>
     refine ⟨i+1,s4,by go_num,by omega,D7,?_,?_,L_,AO⟩
     ·rw[sJ.o];exact jQ
     rw[sJ.o];exact Dk
    case measure=>simp[intOf];omega
   rw[iz] at d2;have HP:=zh (zBK si ⟨af,aL,aG⟩ (x.key:Int) W1 Ao.o (fun j hj=>ak (D4.o j hj) (by omega)))
   have sJ:=zh (show zm g0 (N.take (i+1))=⟨an,ar,am,az+(eY m:Nat),xS (yX ⟨af,aL,aG⟩ (x.key:Int)) (eY m:Nat)⟩ by
    rw[rC.o];unfold yp;rw[iz,Hm.o];rfl)
   have PD:=zh (fun j hj=>ak (qw ⟨af,aL,aG⟩ (x.key:Int) D4.o j hj) (show 9000<=10000 by decide));clear rC;generalize yX ⟨af,aL,aG⟩ (x.key:Int)=M3 at *;obtain ⟨df,dL,dG⟩:=M3;dsimp only at HP;go_wp2_with fail;refine (HP.o).mono ?_;rintro e w4 ⟨⟨s5,rfl,ho⟩,hb4⟩;have IK:=zh (uN s5 ⟨df,dL,dG⟩ (eY m:Nat) w4 ho.rd PD.o);have hw4:=hb4.size;clear ho;generalize xS ⟨df,dL,dG⟩ (eY m:Nat)=M4 at *;obtain ⟨bf,bL,bG⟩:=M4;dsimp only at IK;go_wp2_with fail;refine (IK.o).mono ?_;rintro e w5 ⟨⟨s4,rfl,ho⟩,hb5⟩;replace hb4:=zA hb4 hb5;have jA:Hid (fl w5 (w.heap.size+2) s f s4 bf):=zh (.inr (ho.mono (by omega)));have gj:=zh (mo.o.bb hb4);have jN:=zh (sX.o.bb hb4);have gW:=zh (zA jZ.o hb4);clear x3 x4 x5 x6 x7 x8 x9 gP gQ gK gM xf;clear d0 d1 d2 d3 mo sX jZ Ao HD C1;have x4:=gj.o.c0;have x5:=gj.o.c1;have x6:=gj.o.c2
   have x7:=gj.o.c3;have x8:=gj.o.c4;have x9:=gj.o.c5;have gP:=gj.o.c6;have gQ:=gj.o.c7;have gK:=gj.o.cl;have gM:=gj.o.cg;have x3:=gj.o.n3;have xf:=gj.o.f;go_upto_region 14 with fail;change Code.wp _ _ _ _ (pts w5 w.heap.size (xN s4 bL bG));have jr:=zh (gj.o.map s4 bL bG);have Dq:=zh (jN.o.eL (show w.heap.size+1≠w.heap.size by omega) (xN s4 bL bG));have jH:=zh (zC (B:=w.heap.size) (b:=w.heap.size) (ag _) (xN s4 bL bG) gW.o);have o7:=zh (jA.o.pts (show w.heap.size<w.heap.size+2 by omega) (xN s4 bL bG));generalize pts w5 w.heap.size (xN s4 bL bG)=w6 at *;clear gj jN gW jA x3 x4 x5 x6 x7 x8 x9 gP gQ gK gM xf;have x3:=jr.o.n3;have xf:=jr.o.f;go_upto_region 15 with fail;change Code.wp _ _ _ _ (pts w6 w.heap.size [(3,.int .i64 (az+(eY m:Nat)))]);have jQ:=zh (jr.o.Jq (az+(eY m:Nat)))
   have L_:=zh (Dq.o.eL (show w.heap.size+1≠w.heap.size by omega) [(3,.int .i64 (az+(eY m:Nat)))]);have AO:=zh (zC (B:=w.heap.size) (b:=w.heap.size) (ag _) [(3,.int .i64 (az+(eY m:Nat)))] jH.o);have Dk:=zh (o7.o.pts (show w.heap.size<w.heap.size+2 by omega) [(3,.int .i64 (az+(eY m:Nat)))]);generalize pts w6 w.heap.size [(3,.int .i64 (az+(eY m:Nat)))]=w7 at *;clear jr Dq jH o7 x3 xf;go_wp2_with fail
   go_roundw
   case rel =>
    refine ⟨i+1,s4,by go_num,by omega,D7,?_,?_,L_,AO⟩
    ·rw[sJ.o];exact jQ
    rw[sJ.o];exact Dk
   case measure=>simp[intOf];omega
  have hin:i=n:=by omega
  rw[hin,nN.o] at D8 C1 Dv;rw[hin];have jM:=zh (HPF.o Dv.o);have mH:=zh (C1.o.rd Gq.o ic.o)
  have HLf:=zh (show ∀ j,j<8->((zm g0 N).m.st j).length<=10000 from fun j hj=>by
   have:=Jy.o n (ag _) j hj
   rw[nN.o] at this
   omega)
  clear hin hi;obtain ⟨EB,nJ,Ko⟩:=Gr.o;generalize WI:zm g0 N=gA at *;obtain ⟨an,ar,am,az,⟨af,aL,aG⟩⟩:=gA;dsimp only at D8 C1 EB nJ Ko jM mH HLf;subst EB nJ Ko;clear WI;have IK:=zh (uN si ⟨af,aL,aG⟩ 0 wr mH.o HLf.o);rw[uV] at IK;dsimp only at IK;have amn:=EJ.o.lt;obtain ⟨x4,x5,x6,x7,x8,x9,gP,gQ,gK,gM⟩:=D8.o.q;have xf:=D8.o.f;go_wp2_with fail;refine (IK.o).mono ?_;rintro e w3 ⟨⟨s3,rfl,Ae⟩,hb3⟩;have i_:=zh (D8.o.bb hb3);have ng:=zh (EJ.o.bb hb3);have f_:=zh (zA ic.o hb3);have lD:=zh (Ae.mono (show w.heap.size+2<=wr.heap.size by omega));clear hb3 Ae D8 EJ ic C1 IK mH xf x4 x5 x6 x7 x8 x9 gP gQ gK gM;obtain ⟨x4,x5,x6,x7,x8,x9,gP,gQ,gK,gM⟩:=i_.o.q;have xf:=i_.o.f;go_upto_region 17 with fail;change Code.wp _ _ _ _ (pts w3 w.heap.size (xN s3 aL aG));have jf:=zh (i_.o.map s3 aL aG)
  have lB:=zh (ng.o.eL (show w.heap.size+1≠w.heap.size by omega) (xN s3 aL aG));have gq:=zh (zC (B:=w.heap.size) (b:=w.heap.size) (ag _) (xN s3 aL aG) f_.o);have iP:=zh (lD.o.pts (show w.heap.size<w.heap.size+2 by omega) (xN s3 aL aG));generalize pts w3 w.heap.size (xN s3 aL aG)=w4 at *;clear i_ ng f_ lD xf x4 x5 x6 x7 x8 x9 gP gQ gK gM;obtain ⟨x0,x1,x2,x3,x4,x5,x6,x7,x8,x9,gP,gQ,gK,gM⟩:=jf.o.q;obtain ⟨r0,r1,r2,r3,r4,r5,r6,r7,r8,r9,nL,mD,mR,pK⟩:=lB.o.q;have rf:=lB.o.f;go_wp2_with fail;change bodyPost _ _ _ _ _ (pts w4 (w.heap.size+1) (zS an ar 1 az s3 aL aG));have hby:=lB.o.all an ar 1 az s3 aL aG;have eN:=zh (zC (B:=w.heap.size) (b:=(w.heap.size+1)) (by omega) (zS an ar 1 az s3 aL aG) gq.o)
  have iH:=(iP.o.pts (show w.heap.size+1<w.heap.size+2 by omega) (zS an ar 1 az s3 aL aG)).mono (show w.heap.size<=w.heap.size+2 by omega);rw[jM.o];generalize pts w4 (w.heap.size+1) (zS an ar 1 az s3 aL aG)=V at *;exact au (v:=.tuple #[ze an ar 1 az s3 aL aG,.int .i64 0]) (by simp[results,results12,go_sem,hby.q]) rfl ⟨⟨_,rfl,iH⟩,eN.o⟩
 have jM:=zh (show TG=(12,gX) by rw[lW.o,ai pF]);have e1:(md==1)=false:=beq_eq_false_iff_ne.2 pF;clear lW;obtain ⟨x0,x1,x2,x3,x4,x5,x6,x7,x8,x9,gP,gQ,gK,gM⟩:=fK.o.q;obtain ⟨r0,r1,r2,r3,r4,r5,r6,r7,r8,r9,nL,mD,mR,pK⟩:=iq.o.q;have rf:=iq.o.f;go_wp2_with fail;change bodyPost _ _ _ _ _ (pts w2 (w.heap.size+1) (zS 0 0 0 0 Sl.nil 0 0));have hby:=iq.o.all 0 0 0 0 Sl.nil 0 0;have eN:=zh (zC (B:=w.heap.size) (b:=(w.heap.size+1)) (by omega) (zS 0 0 0 0 Sl.nil 0 0) eX.o);have iH:=jC.o (pts w2 (w.heap.size+1) (zS 0 0 0 0 Sl.nil 0 0));rw[jM.o];generalize pts w2 (w.heap.size+1) (zS 0 0 0 0 Sl.nil 0 0)=V at *;exact au (v:=.tuple #[ze 0 0 0 0 Sl.nil 0 0,.int .i64 12]) (by simp[results,results12,go_sem,hby.q]) rfl ⟨⟨_,rfl,iH⟩,eN.o⟩
end Go.Proofs.YtcgfilmmokmdjaaGreat
