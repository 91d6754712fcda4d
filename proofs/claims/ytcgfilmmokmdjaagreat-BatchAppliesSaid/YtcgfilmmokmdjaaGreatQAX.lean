import Derived.Test.YtcgfilmmokmdjaaGreatBae
set_option linter.all false
set_option maxRecDepth 100000
set_option maxHeartbeats 32000000
namespace Go.Proofs.YtcgfilmmokmdjaaGreat
open Go.Proofs.Tryz
structure Rec where
 off:Int
 nd:Nd
 deriving DecidableEq
structure YR where
 slot:Nat
 gen:Nat
 rev:Nat
 deriving DecidableEq
def zNe (s:YR):Prop:=s.slot<4/\1<=s.gen/\s.gen<=8/\s.rev<=4294967295
instance (s:YR):Decidable (zNe s):=by unfold zNe;exact inferInstance
def zOI:List UInt8:=[78,86,79,76]
def N2 (s:YR):List UInt8:=zOI++be s.slot 2++be s.gen 2++be s.rev 4
def TY (k:List Nd):Nat:=(k.map fun x=>nh x.data.length).sum
def zDW (x:Nd) (k:List Nd):TY (x::k)=nh x.data.length+TY k:=by simp[TY]
def wD (k:List Nd):List UInt8:=k.flatMap kH
def zAH:∀ k:List Nd,(wD k).length=TY k
 |[]=>rfl
 |x::k=>by
  have ih:=zAH k
  show (kH x++wD k).length=_
  rw[ax,ih,qC,zDW]
def whole:List Nd->Nat->Nat
 |[],_=>0
 |x::k,m=>if m<nh x.data.length then 0 else whole k (m-nh x.data.length)+1
open Go.RowKit
def Em (x:Nd):Int:=if 4096<x.data.length then 8 else 1
def YS (x:Nd):Em x≠0:=by unfold Em;split<;>decide
def zFh (x:Nd) (dv:Value) (w:World) (hok:¬ x.ok) (h:ll w dv x.data) :
  Calls prog 74 #[LU x dv] w fun e w'=>e=.returned (.tuple #[.slice none 0 0,.int .i64 (Em x)])/\Below w.heap.size w w':=by
 obtain ⟨a,cap,rfl,h1,h2⟩:=h.fO;have HV:=zh (fun W=>us x a cap W);rw[show decide x.ok=false from aC hok] at HV;have eP:Hid (Below w.heap.size w (w.alloc (.cells #[.int .u64 (x.key:Int),.int .u32 (x.ck:Int),.bool x.del,.slice a x.data.length cap] 56))):=zh ((aj _ _).alloc (ag _) _);have hE:Em x=if 4096<x.data.length then 8 else 1:=rfl
 generalize Em x=er at *;clear h hok;obtain ⟨k,c,d,l⟩:=x;dsimp only at *;generalize hn:l.length=n at *;clear hn
 by_cases hl:4096<n
 ·rw[ah hl] at hE;subst hE;have d1:decide ((4096:Int)<(n:Int))=true:=by simp;omega
  go_enter func74,ntmps74
  go_wp2_with fail;go_ret2;exact ⟨rfl,eP.o⟩
 rw[ai hl] at hE;subst hE;have d1:decide ((4096:Int)<(n:Int))=false:=by simp;omega
 go_enter func74,ntmps74
 go_wp2_with fail;refine (HV.o _).mono ?_;rintro e w1 ⟨rfl,hb1⟩;have eV:=zh (zA eP.o hb1);clear hb1 HV eP;go_wp2_with fail;go_ret2;exact ⟨rfl,eV.o⟩
def xh:List Nd->Int×List UInt8
 |[]=>(0,[])
 |x::r=>if x.ok then (if (xh r).1=0 then (0,kH x++(xh r).2) else ((xh r).1,[])) else (Em x,[])
def YT:∀ {l:List Nd},(∀ x∈l,x.ok)->xh l=(0,wD l)
 |[],_=>rfl
 |x::r,h=>by
  have ih:=YT (l:=r) fun y hy=>h y (by simp[hy])
  unfold xh;rw[ah (h x (by simp)),ih,ah rfl]
  rfl
def kr:∀ {l:List Nd} {k:Nat},k<l.length->(∀ x∈l.take k,x.ok)->¬ (l.getD k IA).ok->xh l=(Em (l.getD k IA),[])
 |[],k,h,_,_=>by cases h
 |x::r,0,_,_,h=>by
  have h:¬ x.ok:=h;unfold xh;rw[ai h];rfl
 |x::r,k+1,hk,ha,h=>by
  have h:¬ (r.getD k IA).ok:=h;have ih:=kr (l:=r) (k:=k) (by simpa using hk) (fun y hy=>ha y (by simp[hy])) h;unfold xh;rw[ah (ha x (by simp)),ih,ai (YS _)]
  rfl
def zDZ (es:List (Nd×Value)) (k:Nat):(es.map (·.1)).getD k IA=(yw es k).1:=by
 unfold yw;rw[aw,aw,b_]
 cases es[k]?<;>rfl
def zBJ (k:List Nd) (x:Nd):wD (k++[x])=wD k++kH x:=by simp[wD]
def zDR {l:List Nd} (h:∀ x∈l,x.ok):(wD l).length<=4128*l.length:=by
 rw[zAH]
 induction l with
 |nil=>exact aq _
 |cons x r ih =>
  have h1:=ih fun y hy=>h y (by simp[hy])
  have h2:=(h x (by simp)).1;have h3:=xZ x.data.length;rw[zDW,aW];omega
def tO {es:List (Nd×Value)} {i:Nat} (h:i<es.length):(es.map (·.1)).take (i+1)=(es.map (·.1)).take i++[(yw es i).1]:=by
 unfold yw;rw[cQ,b_,aA h,aw,aA h];rfl
abbrev tF (eH:Bool) (tk:Int) (kv nv rv:Value):Value:=.agg #[.bool eH,.int .i64 tk,kv,nv,rv]
abbrev wV (eH:Bool) (tk:Int) (kv nv rv:Value):Array Value:=#[.bool eH,.int .i64 tk,kv,nv,rv]
def zGX (eH:Bool) (tk:Int) (kv nv rv:Value) (es:List (Nd×Value)) (w:World) (EV:∃ a n c,kv=.slice a n c) (DI:∃ a n c,rv=.slice a n c) (h:mJ w nv es) (El:∀ p∈es,p.1.Wf) (hs:es.length<=200) :
  Calls prog 34 #[tF eH tk kv nv rv] w fun e w'=>(∃ bv,e=.returned (.tuple #[bv,.int .i64 (xh (es.map (·.1))).1])/\lR w' w.heap.size bv (xh (es.map (·.1))).2)/\Below w.heap.size w w':=by
 obtain ⟨ka,kn,kc,rfl⟩:=EV;obtain ⟨ra,rn,rc,rfl⟩:=DI;obtain ⟨a,cap,rfl,h1,h2⟩:=h.shape;have eP:Hid (Below w.heap.size w (w.alloc (.cells (wV eH tk (.slice ka kn kc) (.slice a es.length cap) (.slice ra rn rc)) 71))):=zh ((aj _ _).alloc (ag _) _);have I3:=zh h;have HK:=zh El;have HM:Hid (∀ j,j<es.length->yw es j∈es):=zh (fun j=>vh);have HS:Hid (∀ j,j<es.length->wD ((es.map (·.1)).take (j+1))=wD ((es.map (·.1)).take j)++kH (yw es j).1):=zh (fun j hj=>by rw[tO hj,zBJ])
 have pI:=zh (show ∀ j,j<es.length->(∀ x∈(es.map (·.1)).take j,x.ok)->(yw es j).1.ok->∀ x∈(es.map (·.1)).take (j+1),x.ok from fun j hj h1 h2 x hx=>by
  rw[tO hj] at hx
  rcases List.mem_append.1 hx with hx|hx
  ·exact h1 x hx
  obtain rfl:=List.mem_singleton.1 hx;exact h2)
 have MR:=zh (show ∀ j,j<es.length->(∀ x∈(es.map (·.1)).take j,x.ok)->¬ (yw es j).1.ok->xh (es.map (·.1))=(Em (yw es j).1,[]) from fun j hj h1 h2=>by
  rw[<- zDZ] at h2 |-
  exact kr (by rw[aH];exact hj) h1 h2)
 have Ay:=zh (show (∀ x∈(es.map (·.1)).take es.length,x.ok)->xh (es.map (·.1))=(0,wD ((es.map (·.1)).take es.length)) from fun h=>by
  rw[aS (by rw[aH];exact ag _)] at h |-
  exact YT h)
 have Bl:=zh (show ∀ j,j<=es.length->(∀ x∈(es.map (·.1)).take j,x.ok)->(wD ((es.map (·.1)).take j)).length<=4128*j from fun j hj h=>by
  have:=zDR h
  rw[aB,aH,bY hj] at this
  exact this)
 clear h El;generalize hn:es.length=n at *;clear hn;generalize es.map (·.1)=K at *;generalize xh K=R at *
 go_enter func34,ntmps34
 go_wp2_with fail
 go_loopw [4,12] (fun ov iv W=>∃ (k m:Nat),iv=.int .i64 (k:Int)/\k<=n/\m<=1000000/\Hid (m=(wD (K.take k)).length)/\Hid (∀ x∈K.take k,x.ok)/\Hid (W.ownsRow w.heap.size 5 1 ov m ((wD (K.take k)).map yy))/\Hid (Below w.heap.size w W)) (fun _ iv _=>n-(intOf iv).toNat)
 case atStart=>exact ⟨0,0,rfl,aq _,aq _,zh rfl,zh (fun x hx=>by cases hx),zh (aP _ _ _ _),eP⟩
 clear eP;obtain ⟨k,m,rfl,hk,hm,YU,ig,rM,HB⟩:=hrel;have hsz:=HB.o.size
 by_cases hlt:k<n
 ·have i1:(k:Int)<(n:Int):=by omega
  have hr:=I3.o.bb HB.o;obtain ⟨pb,F5,rfl,hx,c0,c1,c2,c3⟩:=hr.at hlt;have MT:=HK.o _ (HM.o k hlt);have pq:=zh (HS.o k hlt);have ja:=zh (pI.o k hlt ig.o);have eV:=zh (MR.o k hlt ig.o);clear hr;generalize yw es k=X at *;obtain ⟨x,dv⟩:=X;dsimp only at *;obtain ⟨da,dc,rfl,_,_⟩:=hx.fO
  by_cases hok:x.ok
  ·have nA:=zh (fun W (hb:Below wr.heap.size wr W)=>zGy x (.slice da x.data.length dc) W hok MT (il.bb hx hb));have Q8:=zh (qC x);have hNb:=xZ x.data.length;have hx1:=hok.1;have gp:=zh (ja.o hok);have MU:=zh (Bl.o (k+1) hlt gp.o);clear ja eV hx MT hok;go_upto_region 5 with fail;clear c0 c1 c2 c3;have fq:=qH wr x (.slice da x.data.length dc);have HX:=zh (Bf.new wr x (.slice da x.data.length dc));have eX:=zh (zA HB.o fq);have Q9:=zh (zE rM.o fq);have sS:=zh (nA.o _ fq);clear fq nA HB rM;change Code.wp _ _ _ _ (wr.alloc (.cells (Jw x (.slice da x.data.length dc)) 56));generalize wr.alloc (.cells (Jw x (.slice da x.data.length dc)) 56)=w2 at *;generalize wr.heap.size=bN at *;generalize lu:x.data.length=dn at *;clear lu;generalize nh dn=s at *;obtain ⟨c0,c1,c2,c3⟩:=HX.o.q;go_wp2_with fail;refine sS.o.mono ?_
   rintro e w3 ⟨v3,rfl,eB,hb3⟩;clear c0 c1 c2 c3;have CB:=zh (zE Q9.o hb3);have f_:=zh (zA eX.o hb3);have hs3:=f_.o.size;have ng:Hid (Rd w3 1 v3 s ((kH x).map yy)):=zh (by have:=eB.rd;unfold ll il at this;rw[Q8.o] at this;exact this);obtain ⟨oa,oc,rfl,_⟩:=zG eB;clear eB hb3 Q9 eX sS HX;obtain ⟨ob,obc,rfl,_⟩:=zG CB.o;go_wp2_with (at_builtin;go_must (refine zP (n:=m) (m:=s) rfl (.tmp 24) (.tmp 25) 54 rfl vv w.heap.size rfl CB.o rfl ng.o (xJ _) (by unfold maxLen;omega) (by omega) hs3 ?_);intro v4 w4 fw gI hv4;clear hv4);have gq:=zh (zK f_.o CB.o hs3 gI);have iP:Hid (w4.ownsRow w.heap.size 5 1 v4 (m+s) ((wD (K.take (k+1))).map yy)):=zh (by rw[pq.o,aU];exact fw);have jb:=zh (show m+s=(wD (K.take (k+1))).length by rw[pq.o,ax,Q8.o,<- YU.o])
   have hm4:m+s<=1000000:=by have h5:=MU.o;rw[<- jb.o] at h5;omega
   clear fw gI;go_wp2_with fail;exact ⟨⟨k+1,m+s,by go_num,by omega,hm4,jb,gp,iP,gq⟩,by simp[intOf];omega⟩
  have nA:=zh (fun W (hb:Below wr.heap.size wr W)=>zFh x (.slice da x.data.length dc) W hok (il.bb hx hb));have hR:=eV.o hok;have hne:=YS x;clear ja eV hx MT hok rM;subst hR;go_upto_region 5 with fail;clear c0 c1 c2 c3;have fq:=qH wr x (.slice da x.data.length dc);have HX:=zh (Bf.new wr x (.slice da x.data.length dc));have eX:=zh (zA HB.o fq);have sS:=zh (nA.o _ fq);clear fq nA HB;change Code.wp _ _ _ _ (wr.alloc (.cells (Jw x (.slice da x.data.length dc)) 56));generalize wr.alloc (.cells (Jw x (.slice da x.data.length dc)) 56)=w2 at *;generalize wr.heap.size=bN at *;generalize lu:x.data.length=dn at *;clear lu;obtain ⟨c0,c1,c2,c3⟩:=HX.o.q;have hz:(Em x==0)=false:=beq_eq_false_iff_ne.2 hne;go_wp2_with fail;refine sS.o.mono ?_;rintro e w3 ⟨rfl,hb3⟩;have f_:=zh (zA eX.o hb3);clear c0 c1 c2 c3 hb3 sS HX;go_wp2_with fail;go_ret2
  exact ⟨⟨.slice none 0 0,rfl,aP _ _ _ _⟩,f_.o⟩
 obtain rfl:k=n:=by omega
 have hR:=Ay.o ig.o;subst hR;go_wp2_with fail;go_ret2;exact ⟨⟨_,rfl,vz rM.o rfl⟩,HB.o⟩
def fA.Hl {W W':World} {B B' g n c:Nat} {xs:List Value} {s:Sl} {f:Nat->List It} (ho:fA W B' s f) (h:W.ownsRow B 38 14 (.slice (some ⟨g,0,none⟩) n c) n xs) (hg:W.grownBy W' (some g)):fA W' B' s f:=fun i hi =>
 (ho i hi).kept hg (by
  have h1:=zKP h ho i hi
  cases hv:(s.v i).ownBlock with
  |none=>exact .inl rfl
  |some b=>exact .inr fun e=>h1 (by rw[hv];exact e))
def zMb (i l:Int) (r:Bool) (a:Option Addr) (n c:Nat) (L:List GP) (w:World) (h:fB w (.slice a n c) L) (hs:∀ p∈L,∀ j,j<8->(p.1.m.st j).length<=10000) (hv:zb ⟨i,l,r,ey L⟩=false) :
  Calls prog 15 #[zQ i l r a n c] w (iY w (xb ⟨i,l,r,ey L⟩)):=by
 have fV:=zh (fun W (hb:Below w.heap.size w W)=>yu i l r a n c L W (h.bb hb) hs);have HC:=zh (show xb ⟨i,l,r,ey L⟩=(yq,1) by unfold xb;rw[hv];rfl);rw[hv] at fV;clear h hs hv
 go_enter func15,ntmps15
 go_upto_region 1 with fail;change Code.wp _ _ _ _ ((w.alloc (.cells (zM i l r a n c) 27)).alloc (.cells (zM 0 0 false none 0 0) 27));obtain ⟨W,hW,fJ,hbr,fS⟩:=tN w i l r a n c 27;rw[hW];have HX:=zh fJ;have HR:=zh hbr;have HB:=zh fS;clear hW fJ hbr fS;obtain ⟨k0,k1,k2,k3⟩:=HX.o.q;go_wp2_with fail;refine (fV.o _ HB.o).mono ?_;rintro e w1 ⟨rfl,hb⟩;replace HX:=zh (HX.o.bb hb);replace HR:=zh (HR.o.bb hb);replace HB:=zh (zA HB.o hb);clear hb;clear k0 k1 k2 k3;obtain ⟨z0,z1,z2,z3⟩:=HR.o.q;have zf:=HR.o.f;go_wp2_with fail;change bodyPost _ _ _ _ _ (pts w1 (w.heap.size+1) (zI 0 0 false none 0 0));have hby:=HR.o.all 0 0 false none 0 0;have eN:=zh (zC (B:=w.heap.size) (b:=(w.heap.size+1)) (by omega) (zI 0 0 false none 0 0) HB.o);generalize pts w1 (w.heap.size+1) (zI 0 0 false none 0 0)=V at *
 exact au (v:=.tuple #[zQ 0 0 false none 0 0,.int .i64 1]) (by simp[results,results15,go_sem,hby.c0,hby.c1,hby.c2,hby.c3]) rfl (by rw[HC.o];exact iY.no eN.o)
def zJD (i l:Int) (r:Bool) (a:Option Addr) (n c:Nat) (L:List GP) (w:World) (h:fB w (.slice a n c) L) (hs:∀ p∈L,∀ j,j<8->(p.1.m.st j).length<=10000) (hv:zb ⟨i,l,r,ey L⟩=true) (oA:¬ (zZ ⟨i,l,r,ey L⟩).num<8) :
  Calls prog 15 #[zQ i l r a n c] w (iY w (xb ⟨i,l,r,ey L⟩)):=by
 have fV:=zh (fun W (hb:Below w.heap.size w W)=>yu i l r a n c L W (h.bb hb) hs);have BM:=zh (fun W (hb:Below w.heap.size w W)=>kQ i l r a n c L W (h.bb hb) hs);have HC:=zh (show xb ⟨i,l,r,ey L⟩=(yq,9) by unfold xb;rw[ah hv,ai oA]);rw[hv] at fV;rw[show wu ⟨i,l,r,ey L⟩=false by unfold wu;rw[hv];simpa using oA] at BM;clear h hs hv oA
 go_enter func15,ntmps15
 go_upto_region 1 with fail;change Code.wp _ _ _ _ ((w.alloc (.cells (zM i l r a n c) 27)).alloc (.cells (zM 0 0 false none 0 0) 27));obtain ⟨W,hW,fJ,hbr,fS⟩:=tN w i l r a n c 27;rw[hW];have HX:=zh fJ;have HR:=zh hbr;have HB:=zh fS;clear hW fJ hbr fS;obtain ⟨k0,k1,k2,k3⟩:=HX.o.q;go_wp2_with fail;refine (fV.o _ HB.o).mono ?_;rintro e w1 ⟨rfl,hb⟩;replace HX:=zh (HX.o.bb hb);replace HR:=zh (HR.o.bb hb);replace HB:=zh (zA HB.o hb);clear hb;clear k0 k1 k2 k3;obtain ⟨k0,k1,k2,k3⟩:=HX.o.q;go_wp2_with fail;refine (BM.o _ HB.o).mono ?_;rintro e w2 ⟨rfl,hb⟩;replace HX:=zh (HX.o.bb hb);replace HR:=zh (HR.o.bb hb);replace HB:=zh (zA HB.o hb);clear hb;clear k0 k1 k2 k3;obtain ⟨z0,z1,z2,z3⟩:=HR.o.q;have zf:=HR.o.f;go_wp2_with fail;change bodyPost _ _ _ _ _ (pts w2 (w.heap.size+1) (zI 0 0 false none 0 0))
 have hby:=HR.o.all 0 0 false none 0 0;have eN:=zh (zC (B:=w.heap.size) (b:=(w.heap.size+1)) (by omega) (zI 0 0 false none 0 0) HB.o);generalize pts w2 (w.heap.size+1) (zI 0 0 false none 0 0)=V at *;exact au (v:=.tuple #[zQ 0 0 false none 0 0,.int .i64 9]) (by simp[results,results15,go_sem,hby.c0,hby.c1,hby.c2,hby.c3]) rfl (by rw[HC.o];exact iY.no eN.o)
def zLG (i l:Int) (r:Bool) (a:Option Addr) (n c:Nat) (L:List GP) (w:World) (h:fB w (.slice a n c) L) (hs:∀ p∈L,∀ j,j<8->(p.1.m.st j).length<=10000) (hv:zb ⟨i,l,r,ey L⟩=true) (oA:(zZ ⟨i,l,r,ey L⟩).num<8) :
  Calls prog 15 #[zQ i l r a n c] w (iY w (xb ⟨i,l,r,ey L⟩)):=by
 have fV:=zh (fun W (hb:Below w.heap.size w W)=>yu i l r a n c L W (h.bb hb) hs);have BM:=zh (fun W (hb:Below w.heap.size w W)=>kQ i l r a n c L W (h.bb hb) hs);have hV:=(zX _).1 hv;obtain ⟨Jz,Mc,_⟩:=hV.EI;have fT:L.length=n:=by
  obtain ⟨_,_,e,_⟩:=h.shape;injection e with _ e _;exact e.symm
 have hl:(ey L).length=n:=by rw[zk,fT]
 have hn:1<=n/\n<=8:=by have:=hV.len;simp only[hl] at this;exact this
 obtain ⟨j,rfl⟩:∃ j,n=j+1:=⟨n-1,by omega⟩
 have hC:xb ⟨i,l,r,ey L⟩=(⟨i,l,r,(ey L).take j++[{zZ ⟨i,l,r,ey L⟩ with mode:=2},fresh ((zZ ⟨i,l,r,ey L⟩).num+1)]⟩,0):=by
  unfold xb;rw[ah hv,ah oA]
  show ((⟨i,l,r,(ey L).take ((ey L).length-1)++_⟩:fk),(0:Int))=_
  rw[hl];rfl
 rw[hv] at fV;rw[show wu ⟨i,l,r,ey L⟩=true by unfold wu;rw[hv];simpa using oA] at BM;have gN:=Jz.num;have hls:=hs _ (yP (l:=L) (i:=j) (by omega));rw[wZ fT] at hC Jz Mc oA gN;have HTg:Hid (wE (pat L j).1 1=(0,{(pat L j).1 with mode:=1+1})):=zh (by unfold wE;rw[ah ((yM _).2 Jz),ah Mc]);have HC:=zh hC;have j_:=zh h;have Fu:=zh hs;have YV:Hid ((ey L).length=j+1):=zh (hl);have Jl:=zh (fun M (e:ey M=ey L)=>show (pat M j).1=(pat L j).1 by rw[<- yj,<- yj,e]);clear hV fT hl hv hs hC Jz h;generalize (pat L j).1=tg at *;obtain ⟨num,rev,md,sz,⟨f,LV,GA⟩⟩:=tg;dsimp only at *;subst Mc;have G0:=zh hls;clear hls
 go_enter func15,ntmps15
 go_upto_region 1 with fail;change Code.wp _ _ _ _ ((w.alloc (.cells (zM i l r a (j+1) c) 27)).alloc (.cells (zM 0 0 false none 0 0) 27));obtain ⟨W,hW,fJ,hbr,fS⟩:=tN w i l r a (j+1) c 27;rw[hW];have HX:=zh fJ;have HR:=zh hbr;have HB:=zh fS;clear hW fJ hbr fS;have hB0:w.heap.size+2<=W.heap.size:=by have:=HR.o.lt;omega
 obtain ⟨k0,k1,k2,k3⟩:=HX.o.q;go_wp2_with fail;refine (fV.o _ HB.o).mono ?_;rintro e w1 ⟨rfl,hb⟩;replace HX:=zh (HX.o.bb hb);replace HR:=zh (HR.o.bb hb);replace HB:=zh (zA HB.o hb);have hB1:=ak hB0 hb.size;clear hb fV;clear k0 k1 k2 k3;obtain ⟨k0,k1,k2,k3⟩:=HX.o.q;go_wp2_with fail;refine (BM.o _ HB.o).mono ?_;rintro e w2 ⟨rfl,hb⟩;replace HX:=zh (HX.o.bb hb);replace HR:=zh (HR.o.bb hb);replace HB:=zh (zA HB.o hb);have hB2:=ak hB1 hb.size;clear hb BM;clear k0 k1 k2 k3;obtain ⟨k0,k1,k2,k3⟩:=HX.o.q;go_wp2_with fail;refine (zB3 i l r a (j+1) c L w2 (j_.o.bb HB.o) Fu.o (by omega)).mono ?_;rintro e w3 hq;obtain ⟨⟨a1,c1,M,rfl,ho,hg⟩,hb⟩:=hq;have rU:=zh (ho.lower hB2);have iZ:=zh hg;clear k0 k1 k2 k3 ho hg;replace HX:=zh (HX.o.bb hb);replace HR:=zh (HR.o.bb hb)
 replace HB:=zh (zA HB.o hb);have Fj:=ak hB2 hb.size;clear hb;obtain ⟨k0,k1,k2,k3⟩:=HX.o.q;have kf:=HX.o.f;go_upto_region 6 with fail;clear k0 k1 k2 k3 kf;obtain ⟨g,rfl,hgB,rV⟩:=uB rU.o.row (by omega);have jf:=zh (HX.o.all i l r (some ⟨g,0,none⟩) (j+1) c1);have lB:=zh (HR.o.eL (d:=w.heap.size) (by omega) (zI i l r (some ⟨g,0,none⟩) (j+1) c1));have gq:=zh (zC (B:=w.heap.size) (b:=w.heap.size) (ag _) (zI i l r (some ⟨g,0,none⟩) (j+1) c1) HB.o);have iP:=zh (rU.o.pts (b:=w.heap.size) (by omega) (zI i l r (some ⟨g,0,none⟩) (j+1) c1));have AB:w.heap.size+2<=(pts w3 w.heap.size (zI i l r (some ⟨g,0,none⟩) (j+1) c1)).heap.size:=by rw[wh];exact Fj
 have YW:g<(pts w3 w.heap.size (zI i l r (some ⟨g,0,none⟩) (j+1) c1)).heap.size:=by rw[wh];exact rV
 clear HX HR HB rU rV;change Code.wp _ _ _ _ (pts w3 w.heap.size (zI i l r (some ⟨g,0,none⟩) (j+1) c1));generalize pts w3 w.heap.size (zI i l r (some ⟨g,0,none⟩) (j+1) c1)=w4 at *;have hat:=PJ iP.o.row iP.o.len (show j<j+1 by omega);have hpt:=Jl.o M iZ.o;have hmr:=iP.o.m _ (yP (l:=M) (i:=j) (by have:=iP.o.len;omega));generalize pat M j=q at *;obtain ⟨qg,qs⟩:=q;dsimp only at hpt hmr;subst hpt;have ES:=zh hat;have KZ:=zh hmr;clear hat hmr Jl;dsimp only at KZ;have j3:IntKind.i64.wrap (j:Int)=(j:Int):=aF _ (by omega);have i2:(j:Int)<((j+1:Nat):Int):=by omega
 have k3:=jf.o.c3;have g0:=ES.o.n0;dsimp only at g0;go_wp2_with fail;refine (zDf (num+1) (by omega) w4).mono ?_;rintro e w5 ⟨rfl,hb⟩;clear k3 g0;replace jf:=zh (jf.o.bb hb);replace lB:=zh (lB.o.bb hb);replace gq:=zh (zA gq.o hb);replace iP:=zh (iP.o.keep hb);replace ES:=zh (ES.o.bb hb);replace KZ:=zh (KZ.o.keep hb);have Fz:=ak AB hb.size;have apq:g<w5.heap.size:=cH YW hb.size;clear hb;go_upto_region 8 with fail;change Code.wp _ _ _ _ (w5.alloc (.cells (zU (num+1) 0 1 16 Sl.nil 0 0) 38));have fq:=zT w5 (num+1) 0 1 16 Sl.nil 0 0 38;have HF:=zh (eU.new w5 (num+1) 0 1 16 Sl.nil 0 0 38);replace jf:=zh (jf.o.bb fq);replace lB:=zh (lB.o.bb fq);replace gq:=zh (zA gq.o fq);replace iP:=zh (iP.o.keep fq);replace ES:=zh (ES.o.bb fq);replace KZ:=zh (KZ.o.keep fq);have Gs:=ak Fz fq.size;clear fq
 generalize w5.alloc (.cells (zU (num+1) 0 1 16 Sl.nil 0 0) 38)=w6 at *;generalize w5.heap.size=bF at *;have KH:=zh (zGg ⟨num,rev,1,sz,⟨f,LV,GA⟩⟩ qs w6 KZ.o.rd G0.o);rw[HTg.o] at KH;dsimp only at KH;obtain ⟨g0,g1,g2,g3,g4,g5,g6,g7,g8,g9,g10,g11,g12,g13⟩:=ES.o.q
 try dsimp only at g0 g1 g2 g3 g4 g5 g6 g7 g8 g9 g10 g11 g12 g13
 have Q_:=zh (fun W' (hb:Below w6.heap.size w6 W')=>(ES.o.bb hb).there (xu (zE iP.o.row hb)));go_wp2_with fail;refine KH.o.mono ?_;rintro e w7 ⟨⟨t,rfl,Et⟩,hb⟩;dsimp only at Et |-;replace jf:=zh (jf.o.bb hb);replace lB:=zh (lB.o.bb hb);replace gq:=zh (zA gq.o hb);replace iP:=zh (iP.o.keep hb);replace HF:=zh (HF.o.bb hb);have HT7:=zh (Q_.o w7 hb);have Mh:=ak Gs hb.size;have HTo:=zh (Et.mono Gs);clear Et hb KH Q_ g0 g1 g2 g3 g4 g5 g6 g7 g8 g9 g10 g11 g12 g13
 go_upto_region 10 with (first|((with_reducible refine wpList_store_mid ?_ 38 (.tmp 43) (.tmp 41) ?_ g (j*14) (zU num rev 2 sz t LV GA) ?_ ?_ ?_ ?_ ?_ ?_);rfl;rfl;rfl;rfl;exact HT7.o;exact WX;exact qP _ _ _ _ _ _ _;rw[qJ];have jP:=zh (iP.o.set j (by omega) ((⟨num,rev,2,sz,⟨f,LV,GA⟩⟩:Gn),t) HTo.o);dsimp only at jP;have sD:=zh (jf.o.eL (d:=g) (by omega) (t_ (j*14) num rev 2 sz t LV GA));have KJ:=zh (lB.o.eL (d:=g) (by omega) (t_ (j*14) num rev 2 sz t LV GA));have C6:=zh (HF.o.eL (c:=g) (by omega) (t_ (j*14) num rev 2 sz t LV GA));have nV:=zh (zC (B:=w.heap.size) (b:=g) (by omega) (t_ (j*14) num rev 2 sz t LV GA) gq.o);have hB8:w.heap.size+2<=(pts w7 g (t_ (j*14) num rev 2 sz t LV GA)).heap.size:=(by rw[wh];exact Mh);clear jf lB gq iP HF HTo;generalize pts w7 g (t_ (j*14) num rev 2 sz t LV GA)=w8 at *;have k3:=sD.o.c3;have u0:=C6.o.n0;have u1:=C6.o.n1;have u2:=C6.o.n2;have u3:=C6.o.n3;have u4:=C6.o.c0;have u5:=C6.o.c1;have u6:=C6.o.c2;have u7:=C6.o.c3;have u8:=C6.o.c4;have u9:=C6.o.c5;have u10:=C6.o.c6;have u11:=C6.o.c7;have u12:=C6.o.cl;have u13:=C6.o.cg;obtain ⟨w9,N1⟩:∃ w9,w8.alloc (.cells (iM ((fresh (num+1),Sl.nil):GP)).toArray 38)=w9:=⟨_,rfl⟩;have gy:Below w8.heap.size w8 w9:=N1▸(aj _ _).alloc (ag _) _;have iw:Hid (Rd w9 14 (.slice (some ⟨w8.heap.size,0,none⟩) 1 1) 1 (iM ((fresh (num+1),Sl.nil):GP))):=zh (N1▸Rd.jR w8.heap.size w8 rfl 14 (iM ((fresh (num+1),Sl.nil):GP)) 38 1 rfl (by decide));have jl:=zh (jP.o.keep gy);have hB9:=ak hB8 gy.size;have HH9:=zh N1;clear N1)|(at_builtin;go_must (change wpList _ _ _ _ _ (w8.alloc (.cells (iM ((fresh (num+1),Sl.nil):GP)).toArray 38));rw[HH9.o];refine zP rfl (.tmp 45) (.tmp 47) 25 rfl Xc (w.heap.size+2) rfl jl.o.row rfl iw.o (NK _) (by unfold maxLen;omega) (by omega) hB9 ?_;intro v10 N3 Hs A1 YX;clear YX;obtain ⟨ra,rc,rfl,_⟩:=zG Hs;replace A1:w9.grownBy N3 (some g):=A1;have Dl:=zh ((sD.o.bb gy).l7 A1 (by omega));have Ra:=zh ((KJ.o.bb gy).l7 A1 (by omega));have Jm:=zh ((zA nV.o gy).trans ((zK (aj (w.heap.size+2) w9) jl.o.row hB9 A1).mono (by omega)));have Jn:=zh Hs;have Rb:=zh (fun p hp=>(jl.o.m p hp).Hl jl.o.row A1);have k3:=Dl.o.c3;have kf:=Dl.o.f)))
 clear k3 kf u0 u1 u2 u3 u4 u5 u6 u7 u8 u9 u10 u11 u12 u13;have YY:Hid (fp (pts N3 w.heap.size [(3,.slice ra (j+1+1) rc)]) w.heap.size i l r ra (j+1+1) rc):=zh (Dl.o.Ds ra (j+1+1) rc);have MV:=zh (Ra.o.eL (d:=w.heap.size) (by omega) [(3,.slice ra (j+1+1) rc)]);have YZ:=zh (zC (B:=w.heap.size) (b:=w.heap.size) (ag _) [(3,.slice ra (j+1+1) rc)] Jm.o);have Y0:=zh (xY (b:=w.heap.size) (by omega) Jn.o [(3,.slice ra (j+1+1) rc)]);have Y1:=zh (fun p hp=>(Rb.o p hp).pts (b:=w.heap.size) (by omega) [(3,.slice ra (j+1+1) rc)]);clear Dl Ra Jm Jn Rb;change Code.wp _ _ _ _ (pts N3 w.heap.size [(3,.slice ra (j+1+1) rc)]);generalize pts N3 w.heap.size [(3,.slice ra (j+1+1) rc)]=Y2 at *;have hlM:M.length=j+1:=(zk M).symm.trans ((aM List.length iZ.o).trans YV.o);obtain ⟨k0,k1,k2,k3⟩:=YY.o.q
 obtain ⟨z0,z1,z2,z3⟩:=MV.o.q;have zf:=MV.o.f;go_wp2_with fail;change bodyPost _ _ _ _ _ (pts Y2 (w.heap.size+1) (zI i l r ra (j+1+1) rc))
 have LN:=zh (show fB (pts Y2 (w.heap.size+1) (zI i l r ra (j+1+1) rc)) (.slice ra (j+1+1) rc) (M.set j ((⟨num,rev,2,sz,⟨f,LV,GA⟩⟩:Gn),t)++[(fresh (num+1),Sl.nil)]) from uk (B:=w.heap.size+2) (T:=38) (by
  rw[cn,show [((fresh (num+1),Sl.nil):GP)].flatMap iM=iM ((fresh (num+1),Sl.nil):GP) from cz _]
  exact xY (b:=w.heap.size+1) (by omega) Y0.o _) (by rw[ax,a_,hlM];rfl) (fun p hp=>by
  rcases List.mem_append.1 hp with hp|hp
  ·exact ((Y1.o p hp).pts (b:=w.heap.size+1) (by omega) _).rd
  rw[List.mem_singleton.1 hp];exact Pb _))
 have HGf:=zh (show ey (M.set j ((⟨num,rev,2,sz,⟨f,LV,GA⟩⟩:Gn),t)++[(fresh (num+1),Sl.nil)])=(ey L).take j++[⟨num,rev,2,sz,⟨f,LV,GA⟩⟩,fresh (num+1)] from by
  rw[zCx,Xh,iZ.o,List.set_eq_take_append_cons_drop,ah (by rw[YV.o];omega),cu (by rw[YV.o];omega)]
  simp[ey])
 have hby:=MV.o.all i l r ra (j+1+1) rc;have eN:=zh (zC (B:=w.heap.size) (b:=(w.heap.size+1)) (by omega) (zI i l r ra (j+1+1) rc) YZ.o);generalize pts Y2 (w.heap.size+1) (zI i l r ra (j+1+1) rc)=V at *;exact au (v:=.tuple #[zQ i l r ra (j+1+1) rc,.int .i64 0]) (by simp[results,results15,go_sem,hby.c0,hby.c1,hby.c2,hby.c3]) rfl (by rw[HC.o];exact ⟨⟨ra,j+1+1,rc,M.set j ((⟨num,rev,2,sz,⟨f,LV,GA⟩⟩:Gn),t)++[(fresh (num+1),Sl.nil)],rfl,LN.o,HGf.o⟩,eN.o⟩)
def zLF (i l:Int) (r:Bool) (a:Option Addr) (n c:Nat) (L:List GP) (w:World) (h:fB w (.slice a n c) L) (hs:∀ p∈L,∀ j,j<8->(p.1.m.st j).length<=10000):Calls prog 15 #[zQ i l r a n c] w (iY w (xb ⟨i,l,r,ey L⟩)):=by
 cases hv:zb ⟨i,l,r,ey L⟩
 ·exact zMb i l r a n c L w h hs hv
 by_cases oA:(zZ ⟨i,l,r,ey L⟩).num<8
 ·exact zLG i l r a n c L w h hs hv oA
 exact zJD i l r a n c L w h hs hv oA
/-! ### Plain -/
noncomputable def yC:List Kl->fk->fk×Int
  |[],s=>(s,0)
  |k::r,s=>if (yK s k.1 k.2).2=0 then yC r (yK s k.1 k.2).1 else (yq,(yK s k.1 k.2).2)
def k7:∀ (l m:List Kl) (s:fk),(yC l s).2=0->yC (l++m) s=yC m (yC l s).1
  |[],_,_,_=>rfl
  |k::r,m,s,h=>by
    unfold yC at h
    show (if (yK s k.1 k.2).2=0 then yC (r++m) (yK s k.1 k.2).1 else _)=yC m (if (yK s k.1 k.2).2=0 then yC r (yK s k.1 k.2).1 else _).1
    by_cases e:(yK s k.1 k.2).2=0
    · rw[ah e] at h
      rw[ah e,ah e];exact k7 r m _ h
    rw[ai e] at h;exact absurd h e
def zBU {l:List Kl} {k:Nat} (hk:k<l.length) {s:fk} (h:(yC (l.take k) s).2=0) (h2:(yK (yC (l.take k) s).1 (yY l k).1 (yY l k).2).2=0):yC (l.take (k+1)) s=((yK (yC (l.take k) s).1 (yY l k).1 (yY l k).2).1,0):=by
  have e:l.take (k+1)=l.take k++[yY l k]:=by rw[cQ,zMg hk];rfl
  rw[e,k7 _ _ _ h]
  show (if _=0 then yC [] _ else _)=_
  rw[ah h2];rfl
def zCo {l:List Kl} {k:Nat} (hk:k<l.length) {s:fk} (h:(yC (l.take k) s).2=0) (h2:(yK (yC (l.take k) s).1 (yY l k).1 (yY l k).2).2≠0):yC l s=(yq,(yK (yC (l.take k) s).1 (yY l k).1 (yY l k).2).2):=by
  have e:l=l.take k++yY l k::l.drop (k+1):=by
    rw[<- wM hk,<- dH hk,b7]
  have h3:yC l s=yC (yY l k::l.drop (k+1)) (yC (l.take k) s).1:=by
    conv=>lhs;rw[e]
    exact k7 _ _ _ h
  rw[h3]
  show (if _=0 then _ else _)=_
  rw[ai h2]
noncomputable def vP (s:fk) (eH:Bool) (ks:List Kl) (l:List Nd):fk×Int:=
  if zb s=true then
    (if eH=true then xb s
     else if (yC ks s).2=0 then
       (if (yZ (zZ s) l).1=0 then yS (yC ks s).1 (yZ (zZ s) l).2 else (yq,(yZ (zZ s) l).1))
     else (yq,(yC ks s).2))
  else (yq,1)
def kt {K:Nat}:∀ (l:List Kl) (s:fk),fF K s.ep->fF K (yC l s).1.ep
  |[],_,h=>h
  |k::r,s,h=>by
    unfold yC
    split
    · exact kt r _ (kq h)
    exact fun g hg=>by cases hg
def zDk:∀ (l:List Kl) (s:fk),(yC l s).1.ep.length<=s.ep.length
  |[],_=>ag _
  |k::r,s=>by
    unfold yC
    split
    · exact ak (zDk r _) (XT _ _ _)
    exact aq _
/-! ### Gz in memory, as they are read -/
structure rN (w:World) (v:Value) (ks:List KP):Prop where
  row:jy 2 iy w v ks
  keys:∀ p∈ks,mM w p.2.1 p.2.2
def rN.bb {w w':World} {v:Value} {ks:List KP} (h:rN w v ks) (hb:Below w.heap.size w w'):rN w' v ks:=⟨jy.bb h.row hb,fun p hp=>il.bb (h.keys p hp) hb⟩
def Y3 {l:List KP} {i:Nat} (h:i<l.length):iG l i∈l:=by
  unfold iG;rw[aw,aA h];exact bM h
def rN.shape {w:World} {v:Value} {ks:List KP} (h:rN w v ks):∃ a cap,v=.slice a ks.length cap/\ks.length<=cap/\cap<=maxLen:=by
  obtain ⟨a,cap,h1,h2,h3,_⟩:=jy.shape h.row (by decide) (0,.slice none 0 0,[]);exact ⟨a,cap,h1,h2,h3⟩
def rN.at {w:World} {a:Option Addr} {n cap:Nat} {ks:List KP} (h:rN w (.slice a n cap) ks) {j:Nat} (hj:j<n):∃ b off,a=some ⟨b,off,none⟩/\mM w (iG ks j).2.1 (iG ks j).2.2 /\
    w.cell? ⟨b,off+j*2,none⟩=some (.int .i64 (iG ks j).1)/\w.cell? ⟨b,off+j*2+1,none⟩=some (iG ks j).2.1:=by
  obtain ⟨a',cap',e,h2,h3,_,h5⟩:=jy.shape h.row (by decide) (0,.slice none 0 0,[]);injection e with e1 e2 e3;subst e1 e2 e3;obtain ⟨b,off,e,hc⟩:=h5 (by omega);refine ⟨b,off,e,h.keys _ (Y3 hj),?_,hc j hj 1 _ rfl⟩;have:=hc j hj 0 _ rfl;rwa [bE] at this
def zEw (ks:List KP) (i:Nat):yY (gV ks) i=((iG ks i).1,(iG ks i).2.2):=by
  unfold yY gV iG;rw[aw,aw,b_]
  cases ks[i]?<;>rfl
structure jF (W:World) (P:fP) (kv:Value) (ks:List KP) (nv:Value) (es:List (Nd×Value)) (rv:Value):Prop where
 k:rN W kv ks
 kk:gV ks=P.eE
 n:mJ W nv es
 nn:es.map (·.1)=P.needs
 r:Rd W 1 rv P.res.length (P.res.map qQ)
def jF.bb {W W':World} {P:fP} {kv:Value} {ks:List KP} {nv:Value} {es:List (Nd×Value)} {rv:Value} (h:jF W P kv ks nv es rv) (hb:Below W.heap.size W W'):jF W' P kv ks nv es rv:=
 ⟨h.k.bb hb,h.kk,h.n.bb hb,h.nn,h.r.bb hb⟩
def zND (w:World) (i l:Int) (r:Bool) (a:Option Addr) (n c:Nat) (t u:TypeId):∃ W,((w.alloc (.cells (zM i l r a n c) t)).alloc (.cells #[.bool false,.int .i64 0,.slice none 0 0,.slice none 0 0,.slice none 0 0] u))=W/\eu W w.heap.size (zM i l r a n c) t/\eu W (w.heap.size+1) #[.bool false,.int .i64 0,.slice none 0 0,.slice none 0 0,.slice none 0 0] u/\Below w.heap.size w W:=by
 have h1:=eu.new w (zM i l r a n c) t;have b1:=zR w i l r a n c t;generalize hw1:w.alloc (.cells (zM i l r a n c) t)=w1 at *;have e1:w1.heap.size=w.heap.size+1:=by rw[<- hw1,cm]
 have h2:=eu.new w1 #[.bool false,.int .i64 0,.slice none 0 0,.slice none 0 0,.slice none 0 0] u;have b2:=(aj w1.heap.size w1).alloc (ag _) (.cells #[.bool false,.int .i64 0,.slice none 0 0,.slice none 0 0,.slice none 0 0] u);rw[e1] at h2;exact ⟨_,rfl,h1.bb b2,h2,zA b1 b2⟩
def zGF (s:fk) (ga:Option Addr) (gn gc:Nat) (L:List GP) (qa:Option Addr) (qc:Nat) (qs:List (Rq×Value)) (w:World) (hr:fB w (.slice ga gn gc) L) (hg:ey L=s.ep) (hl:fF 600 s.ep)
  (hq:AW w (.slice qa qs.length qc) qs) (Lm:qs.length<=1000000) (iz:∀ p∈qs,p.1.data.length<=100000) :
  Calls prog 25 #[zQ s.id s.lim s.ro ga gn gc,.slice qa qs.length qc] w fun e w'=>∃ kv ks nv es rv,e=.returned (.tuple #[.agg #[.bool (yE s (qs.map (·.1))).1.eH,.int .i64 ((yE s (qs.map (·.1))).1.res.length:Int),kv,nv,rv],.int .i64 (yE s (qs.map (·.1))).2])/\nG w' w.heap.size (yE s (qs.map (·.1))).1 kv ks nv es rv/\Below w.heap.size w w':=by
 have Y4:=zh (fun W (hb:Below w.heap.size w W)=>zJN s ga gn gc L qa qc qs w W hb hr hg hl hq Lm iz);generalize yE s (qs.map (·.1))=M at *;obtain ⟨M,me⟩:=M;clear hr hg hl hq iz;dsimp only at Y4 |-
 go_enter func25,ntmps25
 go_upto_region 1 with fail;change Code.wp _ _ _ _ ((w.alloc (.cells (zM s.id s.lim s.ro ga gn gc) 31)).alloc (.cells #[.bool false,.int .i64 0,.slice none 0 0,.slice none 0 0,.slice none 0 0] 78));obtain ⟨W1,hW1,hx1,hx2,fS⟩:=zND w s.id s.lim s.ro ga gn gc 31 78;rw[hW1];have HX:=zh hx1;have HY:=zh hx2;have HB:=zh fS;have DL:w.heap.size+1<W1.heap.size:=hx2.lt;clear hW1 hx1 hx2 fS;have q0:=HX.o.cell (i:=0) rfl;have q1:=HX.o.cell (i:=1) rfl;have q2:=HX.o.cell (i:=2) rfl;have q3:=HX.o.cell (i:=3) rfl;go_wp2_with fail;refine (Y4.o W1 HB.o).mono ?_;rintro e w2 ⟨g1,n1,c1,kv,ks,nv,es,rv,rfl,hpl,hb⟩;have HP:=zh hpl;have eO:=zh (HB.o.trans hb.b);have iQ:=zh (hb.box HY.o (by decide));have Aj:w.heap.size+1<w2.heap.size:=cH DL hb.size;clear hpl hb q0 q1 q2 q3 HX HY HB Y4;obtain ⟨ra,rc,DI,_⟩:=zG HP.o.r
 obtain ⟨ka,kc,EV,_⟩:=zG HP.o.k.row;obtain ⟨na,nc,JO,_⟩:=zG HP.o.n.row;subst DI EV JO;go_upto_region 2 with fail;change Code.wp _ _ _ _ ((w2.alloc (.cells #[.bool M.eH,.int .i64 (M.res.length:Int),.slice ka ks.length kc,.slice na es.length nc,.slice ra M.res.length rc] 78)).alloc (.cells (zM M.t.id M.t.lim M.t.ro g1 n1 c1) 31));have hb1:=(aj w2.heap.size w2).alloc (ag _) (.cells #[.bool M.eH,.int .i64 (M.res.length:Int),.slice ka ks.length kc,.slice na es.length nc,.slice ra M.res.length rc] 78);have HV:=zh (eu.new w2 #[.bool M.eH,.int .i64 (M.res.length:Int),.slice ka ks.length kc,.slice na es.length nc,.slice ra M.res.length rc] 78);replace HP:=zh (HP.o.bb hb1);replace eO:=zh (eO.o.trans (hb1.mono (by omega)));replace iQ:=zh (iQ.o.bb hb1);clear hb1
 have hs2:w2.heap.size<(w2.alloc (.cells #[.bool M.eH,.int .i64 (M.res.length:Int),.slice ka ks.length kc,.slice na es.length nc,.slice ra M.res.length rc] 78)).heap.size:=HV.o.lt;generalize w2.alloc (.cells #[.bool M.eH,.int .i64 (M.res.length:Int),.slice ka ks.length kc,.slice na es.length nc,.slice ra M.res.length rc] 78)=w3 at *;have hb1:=zR w3 M.t.id M.t.lim M.t.ro g1 n1 c1 31;replace HV:=zh (HV.o.bb hb1);replace HP:=zh (HP.o.bb hb1);replace eO:=zh (eO.o.trans (hb1.mono (by omega)));replace iQ:=zh (iQ.o.bb hb1);clear hb1;generalize w3.alloc (.cells (zM M.t.id M.t.lim M.t.ro g1 n1 c1) 31)=w4 at *;generalize w2.heap.size=b6 at *;generalize hc4:w.heap.size+1=c4 at *;have CA:=zh (eu.sets (wX M.eH (M.res.length:Int) (.slice ka ks.length kc) (.slice na es.length nc) (.slice ra M.res.length rc)) iQ.o)
 have jB:=zh (HP.o.ik (gO.pts (B:=w.heap.size) (by omega) ⟨_,_,iQ.o⟩ (wX M.eH (M.res.length:Int) (.slice ka ks.length kc) (.slice na es.length nc) (.slice ra M.res.length rc))) (by decide) (by decide) (by decide) (by decide) (by decide));have fH:=zh (zC (B:=w.heap.size) (b:=c4) (by omega) (wX M.eH (M.res.length:Int) (.slice ka ks.length kc) (.slice na es.length nc) (.slice ra M.res.length rc)) eO.o);have v0:=HV.o.cell (i:=0) rfl;have v1:=HV.o.cell (i:=1) rfl;have v2:=HV.o.cell (i:=2) rfl;have v3:=HV.o.cell (i:=3) rfl;have v4:=HV.o.cell (i:=4) rfl;have y0:=iQ.o.cell (i:=0) rfl;have y1:=iQ.o.cell (i:=1) rfl;have y2:=iQ.o.cell (i:=2) rfl;have y3:=iQ.o.cell (i:=3) rfl;have y4:=iQ.o.cell (i:=4) rfl;have yf:=iQ.o.frozen;go_wp2_with fail
 change bodyPost _ _ _ _ _ (pts w4 c4 (wX M.eH (M.res.length:Int) (.slice ka ks.length kc) (.slice na es.length nc) (.slice ra M.res.length rc)));clear v0 v1 v2 v3 v4 y0 y1 y2 y3 y4 yf HP iQ HV eO;generalize pts w4 c4 (wX M.eH (M.res.length:Int) (.slice ka ks.length kc) (.slice na es.length nc) (.slice ra M.res.length rc))=w5 at *;have y0:=CA.o.cell (i:=0) (u:=.bool M.eH) (by simp);have y1:=CA.o.cell (i:=1) (u:=.int .i64 (M.res.length:Int)) (by simp);have y2:=CA.o.cell (i:=2) (u:=.slice ka ks.length kc) (by simp);have y3:=CA.o.cell (i:=3) (u:=.slice na es.length nc) (by simp);have y4:=CA.o.cell (i:=4) (u:=.slice ra M.res.length rc) (by simp)
 exact au (v:=.tuple #[.agg #[.bool M.eH,.int .i64 (M.res.length:Int),.slice ka ks.length kc,.slice na es.length nc,.slice ra M.res.length rc],.int .i64 me]) (by simp[results,results25,go_sem,y0,y1,y2,y3,y4]) rfl ⟨.slice ka ks.length kc,ks,.slice na es.length nc,es,.slice ra M.res.length rc,rfl,jB.o,fH.o⟩
def zIH (i l:Int) (r:Bool) (a a2:Option Addr) (n n2 c c2:Nat) (L L2:List GP) (w:World) (h:fB w (.slice a n c) L) (h2:fB w (.slice a2 n2 c2) L2) (he:ey L=ey L2) (hcap:n<=1000000) :
  Calls prog 32 #[zQ i l r a n c,zQ i l r a2 n2 c2] w fun e w'=>e=.returned (.bool true)/\Below w.heap.size w w':=by
 have fT:L.length=n:=by
  obtain ⟨_,_,e,_⟩:=h.shape;injection e with _ e _;exact e.symm
 have Rf:L2.length=n2:=by
  obtain ⟨_,_,e,_⟩:=h2.shape;injection e with _ e _;exact e.symm
 obtain rfl:n2=n:=by rw[<- fT,<- Rf,<- zk L,<- zk L2,he]
 have HR:=zh h;have iq:=zh h2;have HE:Hid (∀ k,(pat L k).1=(pat L2 k).1):=zh (fun k=>by rw[<- yj,<- yj,he]);have HM:Hid (∀ k,k<n2->pat L k∈L/\pat L2 k∈L2):=zh (fun k hk=>⟨yP (by omega),yP (by omega)⟩);clear h h2 he fT Rf;have lY:=zh (fp.new w i l r a n2 c 31);have eP:=zh (zR w i l r a n2 c 31)
 go_enter func32,ntmps32
 go_upto_region 1 with fail;change Code.wp _ _ _ _ ((w.alloc (.cells (zM i l r a n2 c) 31)).alloc (.cells (zM i l r a2 n2 c2) 31));obtain ⟨W0,hW0⟩:∃ W0,w.alloc (.cells (zM i l r a n2 c) 31)=W0:=⟨_,rfl⟩
 have hsz:W0.heap.size=w.heap.size+1:=by rw[<- hW0];simp
 rw[hW0] at lY eP |-;clear hW0;obtain ⟨W,hW⟩:∃ W,W0.alloc (.cells (zM i l r a2 n2 c2) 31)=W:=⟨_,rfl⟩
 have HY:Hid (fp W (w.heap.size+1) i l r a2 n2 c2):=zh (by have:=fp.new W0 i l r a2 n2 c2 31;rw[hW,hsz] at this;exact this);have eG:=zR W0 i l r a2 n2 c2 31;rw[hW] at eG |-;have HX:=zh (lY.o.bb eG);have HB:=zh (zA eP.o eG);clear eG hW lY eP;obtain ⟨x0,x1,x2,x3⟩:=HX.o.q;obtain ⟨y0,y1,y2,y3⟩:=HY.o.q;go_wp2_with fail;clear x0 x1 x2 x3 y0 y1 y2 y3
 go_loopw [5] (fun iv V=>∃ k:Nat,iv=.int .i64 (k:Int)/\k<=n2/\Hid (Below W.heap.size W V)) (fun iv _=>n2-(intOf iv).toNat)
 case atStart=>exact ⟨0,rfl,aq _,zh (aj _ _)⟩
 obtain ⟨k,rfl,hk,jZ⟩:=hrel;have oO:=zh (zA HB.o jZ.o);have x3:=(HX.o.bb jZ.o).c3
 by_cases hlk:k<n2
 ·as_aux_lemma =>
  have k1:(k:Int)<(n2:Int):=by omega
  have hR:=HR.o.bb oO.o;have hR2:=iq.o.bb oO.o;obtain ⟨b,off,rfl,hg⟩:=hR.at hlk;obtain ⟨b2,apA,rfl,hg2⟩:=hR2.at hlk;have lz:=zh (And.intro (hR.m _ (HM.o k hlk).1) (hR2.m _ (HM.o k hlk).2));have hee:=HE.o k;clear hR hR2;generalize pat L k=p at *;generalize pat L2 k=p2 at *;obtain ⟨g,s⟩:=p;obtain ⟨g2,s2⟩:=p2;dsimp only at *;subst hee;have HS:=zh (fun V (hb:Below wr.heap.size wr V)=>zJa g s s2 V (lz.o.1.bb hb) (lz.o.2.bb hb));clear lz;obtain ⟨num,rev,md,sz,⟨f,LV,GA⟩⟩:=g;dsimp only at *;obtain ⟨g0,g1,g2,g3,g4,g5,g6,g7,g8,g9,g10,g11,g12,g13⟩:=hg;obtain ⟨q0,q1,q2,q3,q4,q5,q6,q7,q8,q9,w_,y_,z_,Aa⟩:=hg2;dsimp only at g0 g1 g2 g3 g4 g5 g6 g7 g8 g9 g10 g11 g12 g13 q0 q1 q2 q3 q4 q5 q6 q7 q8 q9 w_ y_ z_ Aa;have v3:=zB (HX.o.bb jZ.o).c3;have u3:=zB (HY.o.bb jZ.o).c3
  go_upto_region 6 with fail;clear x3;replace g0:=zB g0;replace q0:=zB q0;replace g1:=zB g1;replace q1:=zB q1;replace g2:=zB g2;replace q2:=zB q2;replace g3:=zB g3;replace q3:=zB q3;replace g4:=zB g4;replace q4:=zB q4;replace g5:=zB g5;replace q5:=zB q5;replace g6:=zB g6;replace q6:=zB q6;replace g7:=zB g7;replace q7:=zB q7;replace g8:=zB g8;replace q8:=zB q8;replace g9:=zB g9;replace q9:=zB q9;replace g10:=zB g10;replace w_:=zB w_;replace g11:=zB g11;replace y_:=zB y_;replace g12:=zB g12;replace z_:=zB z_;replace g13:=zB g13;replace Aa:=zB Aa;refine zD (by kernel_rfl) (by kernel_rfl) ?_
  repeat (go_big_quiet_step ((exact zH (HS.o _ (eD.h _)))))
  refine ay ?_;intro _ hw';obtain ⟨q,hw'⟩:=hw';subst hw';have HQ:=zh (k_ jZ.o jZ.o.size q.h);generalize q.w'=W3 at *;clear v3 u3 g0 q0 g1 q1 g2 q2 g3 q3 g4 q4 g5 q5 g6 q6 g7 q7 g8 q8 g9 q9 g10 w_ g11 y_ g12 z_ g13 Aa;go_wp2_with fail;exact ⟨⟨k+1,by go_num,by omega,HQ⟩,by simp[intOf];omega⟩
 have k1:¬ (k:Int)<(n2:Int):=by omega
 go_wp2_with fail;go_ret;exact ⟨rfl,oO.o⟩
structure SAt (w:World) (b o:Nat) (i l:Int) (r:Bool) (a:Option Addr) (n c:Nat):Prop where
 c0:w.cell? ⟨b,o,none⟩=some (.int .i64 i)
 c1:w.cell? ⟨b,o+1,none⟩=some (.int .i64 l)
 c2:w.cell? ⟨b,o+2,none⟩=some (.bool r)
 c3:w.cell? ⟨b,o+3,none⟩=some (.slice a n c)
def slV (p:fk) (k:Nat):lZ:=⟨fun v w=>∃ a n c L,v=zQ p.id p.lim p.ro a n c/\fB w (.slice a n c) L/\ey L=p.ep/\n<=k,fun _ _ _ hb ⟨a,n,c,L,h1,h2,h3,h4⟩=>⟨a,n,c,L,h1,h2.bb hb,h3,h4⟩⟩
def fB.len {w:World} {a:Option Addr} {n c:Nat} {L:List GP} (h:fB w (.slice a n c) L):L.length=n:=by
 obtain ⟨_,_,e,_⟩:=h.shape;injection e with _ e _;exact e.symm
def zKY (s:fk):(xb s).1.ep.length<=8:=by
 by_cases h:(xb s).2=0
 ·exact (zFv h).len.2
 have e:(xb s).1=yq:=by
  unfold xb at h |-
  split
  ·rename_i h1;rw[ah h1] at h
   split
   ·rename_i h2;rw[ah h2] at h;exact absurd rfl h
   rfl
  rfl
 rw[e];exact aq _
def zK0 (s:fk) (g:Gn):(yS s g).1.ep.length<=8:=by
 by_cases h:(yS s g).2=0
 ·exact (zFR h).len.2
 have e:(yS s g).1=yq:=by
  unfold yS at h |-
  split
  ·rename_i h1;rw[ah h1] at h
   split
   ·rename_i h2;rw[ah h2] at h
    split
    ·rename_i h3;rw[ah h3] at h;exact absurd rfl h
    rfl
   rfl
  rfl
 rw[e];exact aq _
/-! ### The keys of a generation among eE -/
def zNa:List Kl->Int->List Int
 |[],_=>[]
 |k::r,n=>(if k.1=n then k.2 else [])++zNa r n
/-! ### A generation that afE keys -/
def N4 (g:Gn) (keys:List Int):Gn:={g with m:=keys.foldl yX g.m}
def zCS:∀ (keys:List Int) {g:Gn},lI g->lI (N4 g keys)
 |[],_,h=>h
 |k::r,g,h=>zCS r (zDS h k)
variable {s:fk}
def zDL (h:fg s) {j:Nat} (hj:j+1<s.ep.length) (keys:List Int):Fit s j (N4 (fh s.ep j) keys):=by
 have ho:=h.g j (by omega);exact ⟨by omega,zCS keys (h.vg (by omega)),rfl,ho.2.2.1,ho.2.2.2,fun e=>by omega⟩
def zGP (h:fg s) {r:Nat} (hr:r+1<s.ep.length) (keys:List Int):yK s (fh s.ep r).num keys=(wg s r (N4 (fh s.ep r) keys),0):=by
 have hm:(fh s.ep r).mode≠1:=fun e=>by have:=(h.g r (by omega)).2.2.1.1 e;omega
 have hk:yh (fh s.ep r) keys=(0,N4 (fh s.ep r) keys):=by
  unfold yh;rw[ah ((yM _).2 (h.vg (by omega))),ai hm];rfl
 unfold yK;rw[zHw h (by omega),ah (by omega),hk,ah rfl,Ta h (zDL h hr keys)]
def zKi {j:Nat} (hj:j<s.ep.length) (g:Gn) (i:Nat):fh (wg s j g).ep i=if i=j then g else fh s.ep i:=vU hj g i
/-! ### What a Y5 numbers say of the gT slot -/
structure ApI (S:fk) (P:fP):Prop where
 kp:Kp S P.t
 top:zZ P.t=zm (zZ S) P.needs
 low:∀ r,r+1<S.ep.length->fh P.t.ep r=N4 (fh S.ep r) (zNa P.eE (fh S.ep r).num)
 KU:P.eE.Pairwise fun a b=>a.1<b.1
 num:∀ x∈P.eE,∃ r,r+1<S.ep.length/\x.1=(fh S.ep r).num
 ok:∀ x∈P.needs,x.ok
/-! ### One request at a time -/
noncomputable def J7 (S:fk) (K:List Rq):Nat->fP
 |0=>wH S
 |i+1=>(zq (J7 S K i) (E3 K i)).2
structure zOR (S:fk) (K:List Rq):Prop where
 m:(yE S K).2=0
 n:(yE S K).1.res.length<=K.length
 eH:(yE S K).1.eH=true->(yE S K).1.res.length=0/\wu S=true
 all:(yE S K).1.eH=false->vP S false (yE S K).1.eE (yE S K).1.needs=((J7 S K (yE S K).1.res.length).t,0)
 one:∀ i,i<(yE S K).1.res.length->(yE (J7 S K i).t [E3 K i]).2=0/\(yE (J7 S K i).t [E3 K i]).1.res=[Mt (yE S K).1.res i]/\(yE (J7 S K i).t [E3 K i]).1.eH=false /\
  vP (J7 S K i).t false (yE (J7 S K i).t [E3 K i]).1.eE (yE (J7 S K i).t [E3 K i]).1.needs=((J7 S K (i+1)).t,0)
def zJn {l:List Gn} {num:Int} (h:uz l num<l.length):(fh l (uz l num)).num=num:=by
 unfold uz at h |-
 cases e:l.findIdx? fun g=>decide (g.num=num) with
 |none=>rw[e] at h;exact absurd h (Nat.lt_irrefl _)
 |some k =>
  obtain ⟨hk,h1,_⟩:=List.findIdx?_eq_some_iff_getElem.1 e
  show (fh l k).num=num
  unfold fh;rw[aw,aA hk]
  simpa using h1
def zIK (h:fg s) {num:Int} {keys:List Int} (he:(yK s num keys).2=0):fg (yK s num keys).1/\zZ (yK s num keys).1=zZ s:=by
 by_cases hg:uz s.ep num<s.ep.length
 ·obtain ⟨r,hr⟩:∃ r,uz s.ep num=r:=⟨_,rfl⟩
  have hn:=zJn hg;rw[hr] at hn hg
  by_cases h1:r+1<s.ep.length
  ·rw[<- hn,zGP h h1];refine ⟨W7 h (zDL h h1 keys),?_⟩;unfold zZ;rw[zKi hg,show (wg s r (N4 (fh s.ep r) keys)).ep.length=s.ep.length from a_,ai (by omega)]
  have hm:(fh s.ep r).mode=1:=(h.g r hg).2.2.1.2 (by omega);have hk:yh (fh s.ep r) keys=(12,gX):=by
   unfold yh;rw[ah ((yM _).2 (h.vg hg)),ah hm]
  unfold yK at he;rw[hr,ah hg,hk,ai (by decide)] at he;exact absurd he (by decide)
 unfold yK at he;rw[ai hg] at he;exact absurd he (by decide)
def zCV:∀ (l:List Kl) (s:fk),fg s->(yC l s).2=0->fg (yC l s).1/\zZ (yC l s).1=zZ s
 |[],s,h,_=>⟨h,rfl⟩
 |k::r,s,h,he=>by
  by_cases h1:(yK s k.1 k.2).2=0
  ·have hr:yC (k::r) s=yC r (yK s k.1 k.2).1:=ah h1;obtain ⟨h2,h3⟩:=zIK h h1;rw[hr] at he |-;obtain ⟨h4,h5⟩:=zCV r _ h2 he;exact ⟨h4,h5.trans h3⟩
  have hr:yC (k::r) s=(yq,(yK s k.1 k.2).2):=ai h1;rw[hr] at he;exact absurd he h1
end Go.Proofs.YtcgfilmmokmdjaaGreat
