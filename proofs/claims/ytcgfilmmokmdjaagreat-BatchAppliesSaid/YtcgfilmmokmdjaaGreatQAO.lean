import Derived.Test.YtcgfilmmokmdjaaGreatQAN
set_option linter.all false
namespace Go.Proofs.YtcgfilmmokmdjaaGreat
def uU (g:Gn) (key:Int):Gn:={g with m:=yX g.m key}
variable {g:Gn}
def lI.room (h:lI g) (key:Int):g.m.ew+(jh (zl g.m key):Int)<=1099511627776:=by
 have:=h.small;have:=Sy (zl g.m key);omega
def zDS (h:lI g) (key:Int):lI (uU g key):=by
 have hm:=(zi _).1 h.m;have hr:=h.room key;have hd:=hm.del hr;have hs:=SA hm hr;have OX:=h.sum;refine ⟨h.num,h.rev,h.mode,h.size,(zi _).2 hd,zDl hm hd h.ends (cL _) ?_,?_⟩
 ·intro k y hy;rw[Sz hm hr] at hy
  split at hy
  ·cases hy
  exact hy
 show g.size=16+(yX g.m key).live+(yX g.m key).ew
 omega
def zDO (h:lI g) (hm:g.mode≠1) (key:Int):yh g [key]=(0,uU g key):=by
 unfold yh;rw[ah ((yM g).2 h),ai hm];rfl
def zKS {l:List Gn} {i:Nat} (hi:i<l.length):l[i]?=some (fh l i):=by
 unfold fh;rw[aw,aA hi];rfl
def vU {l:List Gn} {j:Nat} (hj:j<l.length) (g:Gn) (i:Nat):fh (l.set j g) i=if i=j then g else fh l i:=by
 unfold fh;rw[aw,dJ,aw]
 by_cases e:j=i
 ·rw[ah e,ah e.symm,ah hj];rfl
 rw[ai e,ai fun h=>e h.symm]
def fg.inj {s:fk} (h:fg s):∀ {i j:Nat},i<j->j<s.ep.length->(fh s.ep i).num<(fh s.ep j).num
 |i,0,hij,_=>by omega
 |i,j+1,hij,hj=>by
  have h1:=(h.g (j+1) hj).2.1 (by omega);rw[show j+1-1=j by omega] at h1
  by_cases e:i=j
  ·rw[e];exact h1
  have:=fg.inj h (show i<j by omega) (by omega);omega
variable {s:fk}
def fg.Bi (h:fg s) {i j:Nat} (hi:i<s.ep.length) (hj:j<s.ep.length) (hne:i≠j):(fh s.ep i).num≠(fh s.ep j).num:=by
 rcases Nat.lt_or_gt_of_ne hne with h1|h1
 ·have:=h.inj h1 hj;omega
 have:=h.inj h1 hi;omega
def zK5 (h:fg s) {j:Nat} (hj:j<s.ep.length) {g:Gn} (hg:g.num=(fh s.ep j).num):t7 s.ep g=s.ep.set j g:=by
 refine List.ext_getElem? fun i=>?_
 unfold t7;rw[b_,dJ]
 by_cases hi:i<s.ep.length
 ·rw[zKS hi]
  by_cases hij:j=i
  ·subst hij;rw[ah rfl,ah hj];simp[hg]
  rw[ai hij];have h1:(fh s.ep i).num≠g.num:=by rw[hg];exact h.Bi hi hj fun e=>hij e.symm
  simp[h1]
 rw[ai (by omega),List.getElem?_eq_none (by omega)]
 rfl
structure Fit (s:fk) (j:Nat) (g:Gn):Prop where
 hj:j<s.ep.length
 v:lI g
 n:g.num=(fh s.ep j).num
 m:g.mode=1↔j+1=s.ep.length
 z:g.size<=2*s.lim
 t:j+1=s.ep.length->g.size+(((zN g.m).length*24:Nat):Int)<=2*s.lim
def wg (s:fk) (j:Nat) (g:Gn):fk:=⟨s.id,s.lim,s.ro,s.ep.set j g⟩
def W7 (h:fg s) {j:Nat} {g:Gn} (hf:Fit s j g):fg (wg s j g):=by
 have hj:=hf.hj;refine ⟨h.id,h.lim,by show 1<=(s.ep.set j g).length/\(s.ep.set j g).length<=8;rw[a_];exact h.len,fun i hi=>?_,?_⟩
 ·have hi:i<s.ep.length:=by have:i<(s.ep.set j g).length:=hi;rwa [a_] at this
  have ho:=h.g i hi;unfold DY wg;dsimp only;rw[a_,vU hj,vU hj];obtain ⟨h1,h2,h3,h4⟩:=ho
  by_cases e:i=j
  ·subst e;rw[ah rfl];refine ⟨(yM _).2 hf.v,fun h0=>?_,hf.m,hf.z⟩;rw[ai (by omega),hf.n];exact h2 h0
  rw[ai e];refine ⟨h1,fun h0=>?_,h3,h4⟩
  by_cases e2:i-1=j
  ·rw[ah e2,hf.n,<- e2];exact h2 h0
  rw[ai e2];exact h2 h0
 have hl:=h.len
 show (fh (s.ep.set j g) ((s.ep.set j g).length-1)).size+(((zN (fh (s.ep.set j g) ((s.ep.set j g).length-1)).m).length*24:Nat):Int)<=2*s.lim
 rw[a_,vU hj]
 by_cases e:s.ep.length-1=j
 ·rw[ah e];exact hf.t (by omega)
 rw[ai e];exact h.top
def Ta (h:fg s) {j:Nat} {g:Gn} (hf:Fit s j g):yS s g=(wg s j g,0):=by
 have hv:=(zX _).2 (W7 h hf);have hp:=zK5 h hf.hj hf.n;unfold wg at hv |-;unfold yS;rw[ah ((zX s).2 h),hp,ah ?_,ah hv]
 ·rw[List.any_eq_true];exact ⟨fh s.ep j,qV hf.hj,by simp[hf.n]⟩
def fit_drop (h:fg s) {j:Nat} (hj:j+1<s.ep.length) (key:Int):Fit s j (uU (fh s.ep j) key):=by
 have ho:=h.g j (by omega);exact ⟨by omega,zDS (h.vg (by omega)) key,rfl,ho.2.2.1,ho.2.2.2,fun e=>by omega⟩
/-! ### The numbers of the older gB -/
def W8 (l:List Gn) (key:Int):∀ (n i:Nat),i<(uS l key n).length->∃ r,r<n/\(uS l key n)[i]?=some (fh l r).num/\zl (fh l r).m key≠none/\(uS l key r).length=i
 |0,i,h=>by cases h
 |n+1,i,h=>by
  have e:uS l key (n+1)=uS l key n++(match zl (fh l n).m key with|some _=>[(fh l n).num]|none=>[]):=rfl
  by_cases hi:i<(uS l key n).length
  ·obtain ⟨r,h1,h2,h3,h4⟩:=W8 l key n i hi;exact ⟨r,by omega,by rw[e,List.getElem?_append_left hi];exact h2,h3,h4⟩
  rw[e,ax] at h
  cases hx:zl (fh l n).m key with
  |none=>rw[hx] at h;simp at h;omega
  |some x =>
   rw[hx] at h;have hi2:i=(uS l key n).length:=by simp at h;omega
   refine ⟨n,by omega,?_,by rw[hx];exact (fun h=>by cases h),hi2.symm⟩;rw[e,hx,List.getElem?_append_right (by omega),hi2];simp
/-! ### The slot after the PS below place c -/
structure Dn (S:fk) (key:Int) (c:Nat) (s:fk):Prop where
 v:fg s
 id:s.id=S.id
 lim:s.lim=S.lim
 ro:s.ro=S.ro
 len:s.ep.length=S.ep.length
 num:∀ r,r<S.ep.length->(fh s.ep r).num=(fh S.ep r).num
 lo:∀ r,r<c->r<S.ep.length->zl (fh s.ep r).m key=none
 hi:∀ r,c<=r->fh s.ep r=fh S.ep r
 st:fF 48 s.ep
/-! ### What is found -/
def zEs {l:List Gn} {key:Int}:∀ {n:Nat} {x:lJ} {t:List lJ},xp l key n=x::t->x.at_<n/\x.mode=(fh l x.at_).mode/\zl (fh l x.at_).m key=some x.it/\x.gen=(fh l x.at_).num/\x.rev=(fh l x.at_).rev/\∀ r,x.at_<r->r<n->zl (fh l r).m key=none
 |0,_,_,h=>by cases h
 |n+1,x,t,h=>by
  have e:xp l key (n+1)=(match zl (fh l n).m key with|some x=>[⟨(fh l n).num,(fh l n).mode,(fh l n).rev,x,n⟩]|none=>[])++xp l key n:=rfl;rw[e] at h
  cases hx:zl (fh l n).m key with
  |some y =>
   rw[hx] at h;injection h with h1 _;subst h1;exact ⟨dy n,rfl,hx,rfl,rfl,fun r h1 h2=>by dsimp only at h1;omega⟩
  |none =>
   rw[hx] at h;obtain ⟨h1,h2,h3,h4,h5,h6⟩:=zEs (show xp l key n=x::t from h)
   exact ⟨by omega,h2,h3,h4,h5,fun r h7 h8=>by
    by_cases e:r=n
    ·rw[e];exact hx
    exact h6 r h7 (by omega)⟩
def W_ (h:fg s) (key:Int):yF s key=xp s.ep key s.ep.length:=by unfold yF;rw[ah ((zX s).2 h)]
def zF3 (h:fg s) (key:Int):zd s key=uS s.ep key (s.ep.length-1):=by unfold zd;rw[ah ((zX s).2 h)]
def zF6 (hg:lI g) {x:Nd} (hx:x.ok) (hz:g.size+(eY x.data.length:Int)<=1048576) (key:Int) :
  zl (yp g x).m key=if (x.key:Int)=key then (if x.del=true then none else some (DZ g x)) else zl g.m key:=by
 have hm:=(zi _).1 hg.m;have hs:=hg.small;have hxl:=wI x.data.length;unfold yp;dsimp only
 by_cases hd:x.del=true
 ·rw[ah hd];have h1:g.m.ew+(jh (zl g.m x.key):Int)<=1099511627776:=hg.room _;have sV:=hm.del h1;have hds:=SA hm h1;have iz:=sV.live0;have h2:(yX g.m x.key).ew+(eY x.data.length:Int)<=1099511627776:=by omega
  have hw:=sV.Gg (n:=(eY x.data.length:Int)) (by omega) h2;rw[wK hw,uu,<- wK sV,Sz hm h1];simp only[hd,if_true]
 rw[ai hd];have hok:=zKn hg hx;have h1:g.m.ew+(jh (zl g.m (DZ g x).key):Int)<=1099511627776:=hg.room _;rw[zFg hm hok h1,ai hd]
 rfl
/-! ### The slot with rT added to its last generation -/
noncomputable def zOT (S:fk) (l:List Nd):fk:=wg S (S.ep.length-1) (zm (zZ S) l)
variable {S:fk}
def Xa (h:fg S):wU S=(0,zZ S):=by unfold wU;rw[ah ((zX S).2 h)]
def zNY (h:fg S) {g:Gn} (hg:g.num=(zZ S).num/\g.rev=(zZ S).rev/\g.mode=(zZ S).mode) (key:Int) :
  xp (S.ep.set (S.ep.length-1) g) key S.ep.length=(match zl g.m key with|some x=>[⟨(zZ S).num,(zZ S).mode,(zZ S).rev,x,S.ep.length-1⟩]|none=>[])++xp S.ep key (S.ep.length-1):=by
 have hlen:=h.len;obtain ⟨k,hk⟩:∃ k,S.ep.length=k+1:=⟨S.ep.length-1,by omega⟩
 have hj:S.ep.length-1<S.ep.length:=by omega
 have PT:∀ n,n<=S.ep.length-1->xp (S.ep.set (S.ep.length-1) g) key n=xp S.ep key n:=by
  intro n
  induction n with
  |zero=>intro _;rfl
  |succ n ih =>
   intro hn;unfold xp;rw[ih (by omega),vU hj,ai (by omega)]
 have e:xp (S.ep.set (S.ep.length-1) g) key S.ep.length=(match zl (fh (S.ep.set (S.ep.length-1) g) (S.ep.length-1)).m key with|some x=>[⟨(fh (S.ep.set (S.ep.length-1) g) (S.ep.length-1)).num,(fh (S.ep.set (S.ep.length-1) g) (S.ep.length-1)).mode,(fh (S.ep.set (S.ep.length-1) g) (S.ep.length-1)).rev,x,S.ep.length-1⟩]|none=>[])++xp (S.ep.set (S.ep.length-1) g) key (S.ep.length-1):=by
  rw[hk];rfl
 rw[e,PT _ (ag _),vU hj,ah rfl,hg.1,hg.2.1,hg.2.2]
def Xb (h:fg S) (key:Int) :
  xp S.ep key S.ep.length=(match zl (zZ S).m key with|some x=>[⟨(zZ S).num,(zZ S).mode,(zZ S).rev,x,S.ep.length-1⟩]|none=>[])++xp S.ep key (S.ep.length-1):=by
 have hlen:=h.len;obtain ⟨k,hk⟩:∃ k,S.ep.length=k+1:=⟨S.ep.length-1,by omega⟩
 unfold zZ;rw[hk];rfl
structure Rq where
  tk:Int
  kind:Int
  key:Nat
  ck:Nat
  data:List UInt8
def NN:Rq:=⟨0,0,0,0,[]⟩
instance:Inhabited Rq:=⟨NN⟩
def Rq.Wf (q:Rq):Prop:=q.key<18446744073709551616/\q.ck<4294967296
abbrev Kl:=Int×List Int
structure fP where
  t:fk
  eH:Bool
  eE:List Kl
  needs:List Nd
  res:List Int
  bytes:Int
noncomputable def xR (P:fP) (x:Nd):fP:={P with t:=(yS P.t (yZ (wU P.t).2 [x]).2).1,needs:=P.needs++[x],bytes:=P.bytes+(eY x.data.length:Int)}
def uz (l:List Gn) (num:Int):Nat:=(l.findIdx? fun g=>decide (g.num=num)).getD l.length
noncomputable def yK (s:fk) (num:Int) (keys:List Int):fk×Int:=
  if uz s.ep num<s.ep.length then (if (yh (fh s.ep (uz s.ep num)) keys).1=0 then yS s (yh (fh s.ep (uz s.ep num)) keys).2 else (yq,(yh (fh s.ep (uz s.ep num)) keys).1)) else (yq,6)
def ia (l:List Kl) (num:Int):Nat:=(l.findIdx? fun k=>decide (num<=k.1)).getD l.length
def yY (l:List Kl) (i:Nat):Kl:=l.getD i (0,[])
def Ed (l:List Kl) (num key:Int):List Kl:=
  if ia l num<l.length/\(yY l (ia l num)).1=num then l.set (ia l num) (num,(yY l (ia l num)).2++[key])
  else l.take (ia l num)++(num,[key])::l.drop (ia l num)
noncomputable def yU (key:Int) (P:fP) (num:Int):fP:={P with t:=(yK P.t num [key]).1,eE:=Ed P.eE num key}
noncomputable def wO (t:fk) (key:Int):Bool:=!(yF t key).isEmpty&&decide (((yF t key).headD yv).mode=1)
noncomputable def wW (P:fP) (key:Int):fP:=(zd P.t key).foldl (yU key) P
def uH (q:Rq):Nd:=⟨q.key,q.ck,true,[]⟩
def uA (q:Rq):Nd:=⟨q.key,q.ck,false,q.data⟩
noncomputable def wY (P:fP) (q:Rq):fP:=if wO (wW P q.key).t q.key=true then xR (wW P q.key) (uH q) else wW P q.key
noncomputable def yI (t:fk) (q:Rq):Int:=if 4096<q.data.length then 8 else if xA t (q.data.length:Int)=true then 0 else 9
noncomputable def xE (t:fk) (q:Rq):Int:=if (yF t q.key).isEmpty=false/\((yF t q.key).headD yv).it.ck=(q.ck:Int) then 0 else 6
def more (P:fP) (e:Int):fP:={P with res:=P.res++[e]}
noncomputable def zq (P:fP) (q:Rq):Bool×fP:=
  if P.res.length=16 then (false,P)
  else if q.kind=1 then
    (if yI P.t q=9/\wu P.t=true then (false,{P with eH:=decide (P.res.length=0)})
     else if yI P.t q=0 then
       (if 0<P.bytes/\16384<P.bytes+(eY q.data.length:Int) then (false,P) else (true,more (xR P (uA q)) 0))
     else (true,more P (yI P.t q)))
  else if q.kind=2 then
    (if xE P.t q=0 then
       (if wO P.t q.key=true/\0<P.bytes/\16384<P.bytes+24 then (false,P) else (true,more (wY P q) 0))
     else (true,more P 6))
  else (true,more P 1)
noncomputable def tx:List Rq->fP->fP
  |[],P=>P
  |q::r,P=>if (zq P q).1=true then tx r (zq P q).2 else (zq P q).2
def wH (s:fk):fP:=⟨s,false,[],[],[],0⟩
noncomputable def yE (s:fk) (l:List Rq):fP×Int:=if zb s=true then (tx l (wH s),0) else (wH yq,1)
/-! ### How far the numbers go -/
def Tb (P:fP) (x:Nd):(xR P x).res=P.res:=rfl
def wN (P:fP) (key:Int):(wW P key).res=P.res/\(wW P key).needs=P.needs/\(wW P key).bytes=P.bytes/\(wW P key).eH=P.eH:=by
  have h:∀ (l:List Int) (P:fP),(l.foldl (yU key) P).res=P.res/\(l.foldl (yU key) P).needs=P.needs/\(l.foldl (yU key) P).bytes=P.bytes/\(l.foldl (yU key) P).eH=P.eH:=by
    intro l
    induction l with
    |nil=>intro P;exact ⟨rfl,rfl,rfl,rfl⟩
    |cons x r ih =>
      intro P;have:=ih (yU key P x);exact this
  exact h _ P
def kF (P:fP) (q:Rq) (h:P.res.length<=16):(zq P q).2.res.length<=16/\P.res.length<=(zq P q).2.res.length/\((zq P q).1=true->(zq P q).2.res.length=P.res.length+1):=by
  have hd:(wY P q).res=P.res:=by
    unfold wY
    split
    · rw[Tb];exact (wN P q.key).1
    exact (wN P q.key).1
  have hm:∀ (Q:fP) (e:Int),(more Q e).res.length=Q.res.length+1:=fun Q e=>by unfold more;simp
  unfold zq
  split
  · exact ⟨h,ag _,fun h=>by cases h⟩
  split
  · split
    · exact ⟨h,ag _,fun h=>by cases h⟩
    split
    · split
      · exact ⟨h,ag _,fun h=>by cases h⟩
      dsimp only;rw[hm,Tb];exact ⟨by omega,by omega,fun _=>rfl⟩
    dsimp only;rw[hm];exact ⟨by omega,by omega,fun _=>rfl⟩
  split
  · split
    · split
      · exact ⟨h,ag _,fun h=>by cases h⟩
      dsimp only;rw[hm,hd];exact ⟨by omega,by omega,fun _=>rfl⟩
    dsimp only;rw[hm];exact ⟨by omega,by omega,fun _=>rfl⟩
  dsimp only;rw[hm];exact ⟨by omega,by omega,fun _=>rfl⟩
structure SmP (K:Nat) (P:fP):Prop where
  l:fF (K+P.needs.length) P.t.ep
  n:P.needs.length<=P.res.length
  r:P.res.length<=16
  b0:0<=P.bytes
  b1:P.bytes<=4128*(P.needs.length:Int)
  k:P.eE.length<=8*P.res.length
  kk:∀ x∈P.eE,x.2.length<=8*P.res.length
  x:∀ x∈P.needs,x.data.length<=4096
open Go.RowKit
def Xc:wQ Tryz.prog 25 38 14 240:=by
 obtain ⟨i,hi,hz,hs,hb⟩:=cq (P:=Tryz.prog) (e:=38) (z:=ze 0 0 0 0 Sl.nil 0 0) (size:=14) (bytes:=240) (by kernel_rfl);exact ⟨Tryz.underlying25,by decide,i,_,hi,hz,hs,hb,rfl⟩
def zEx (w:World) (i l:Int) (r:Bool) (a:Option Addr) (n c:Nat) (t u:TypeId):∃ W,(w.alloc (.cells (zM i l r a n c) t)).alloc (.cells (zM 0 0 false none 0 0) u)=W/\fp W w.heap.size i l r a n c/\fp W (w.heap.size+1) 0 0 false none 0 0/\Below w.heap.size w W/\W.heap.size=w.heap.size+2:=by
 refine ⟨_,rfl,(fp.new w i l r a n c t).bb (zR _ 0 0 false none 0 0 u),?_,zA (zR w i l r a n c t) (zR _ 0 0 false none 0 0 u),by simp[cm]⟩;have:=fp.new (w.alloc (.cells (zM i l r a n c) t)) 0 0 false none 0 0 u
 rwa [cm] at this
def zNm (x:GP):lZ:=⟨fun v w=>∃ j,v=.slice (some ⟨j,0,none⟩) 1 1/\Rd w 14 (.slice (some ⟨j,0,none⟩) 1 1) 1 (iM x),fun _ _ _ hb ⟨j,h1,h2⟩=>⟨j,h1,h2.bb hb⟩⟩
def zDa (L:List GP) (k:Nat) (hk:k<L.length):(L.take (k+1)).flatMap iM=(L.take k).flatMap iM++iM (pat L k):=by
 rw[cQ,aA hk,cn];unfold pat;rw[aw,aA hk];simp
def Tc {W:World} {B b:Nat} {e:TypeId} {sz n:Nat} {v:Value} {xs:List Value} (h:W.ownsRow B e sz v n xs) (hb:b<B):some b≠v.ownBlock:=fun e=>by
 have:=(h.lt b e.symm).1;omega
def fp.Bj {W W':World} {b:Nat} {row:Option Nat} {i l:Int} {r:Bool} {a:Option Addr} {n c:Nat} (h:fp W b i l r a n c) (hg:W.grownBy W' row) (hne:some b≠row):fp W' b i l r a n c:=by
 have k:∀ i u,W.cell? ⟨b,i,none⟩=some u->W'.cell? ⟨b,i,none⟩=some u:=fun i u hu=>hg.cell hu hne
 refine ⟨k _ _ h.c0,k _ _ h.c1,k _ _ h.c2,k _ _ h.c3,fun i=>?_⟩;have e:=hg.block b h.lt hne;rw[<- h.f i];unfold World.frozen?;rw[e]
def eu (W:World) (b:Nat) (cs:Array Value) (t:TypeId):Prop:=W.heap[b]?=some (.cells cs t (0,0))
section
variable {W W':World} {b:Nat} {cs:Array Value} {t:TypeId}
def eu.lt (h:eu W b cs t):b<W.heap.size:=(Array.getElem?_eq_some_iff.1 h).1
def eu.bb (h:eu W b cs t) (hb:Below W.heap.size W W'):eu W' b cs t:=by
 unfold eu;rw[hb.block b h.lt];exact h
def eu.new (W:World) (cs:Array Value) (t:TypeId):eu (W.alloc (.cells cs t)) W.heap.size cs t:=heap_alloc_new W _
def dY (W:World) (cs:Array Value) (t:TypeId):∃ V,W.alloc (.cells cs t)=V/\Below W.heap.size W V/\RowKit.Hid (eu V W.heap.size cs t):=⟨_,rfl,(aj _ _).alloc (ag _) _,zh (eu.new _ _ _)⟩
def eu.Ee (h:eu W b cs t) (i:Nat):W.cell? ⟨b,i,none⟩=cs[i]?:=by
 have h:W.heap[b]?=some (.cells cs t (0,0)):=h;simp[World.cell?,h]
def eu.cell (h:eu W b cs t) {i:Nat} {u:Value} (hu:cs[i]?=some u):W.cell? ⟨b,i,none⟩=some u:=(h.Ee i).trans hu
def eu.frozen (h:eu W b cs t) (i:Nat):W.frozen? ⟨b,i,none⟩=false:=by
 have h:W.heap[b]?=some (.cells cs t (0,0)):=h;unfold World.frozen?;rw[h];simp
def eu.set (h:eu W b cs t) (i:Nat) (u:Value):eu (W.setCell ⟨b,i,none⟩ u) b (cs.setIfInBounds i u) t:=by
 have hl:=h.lt;have hk:=(Array.getElem?_eq_some_iff.1 h).2
 show (W.heap.modify b _)[b]?=_
 rw[bI (by rw[Array.size_modify];exact hl),Array.getElem_modify_self,hk]
 rfl
def eu.sets:∀ (vs:List (Nat×Value)) {W:World} {cs:Array Value},eu W b cs t->eu (pts W b vs) b (vs.foldl (fun cs p=>cs.setIfInBounds p.1 p.2) cs) t
 |[],_,_,h=>h
 |(i,u)::r,_,_,h=>eu.sets r (h.set i u)
def eu.eL {c:Nat} (hne:b≠c):∀ (vs:List (Nat×Value)) {W:World},eu W b cs t->eu (pts W c vs) b cs t
 |[],_,h=>h
 |(i,u)::r,W,h=>eu.eL hne r (show (W.setCell ⟨c,i,none⟩ u).heap[b]?=_ by rw[Below.heap_setCell W ⟨c,i,none⟩ u b hne];exact h)
def eu.grown {row:Option Nat} (h:eu W b cs t) (hg:W.grownBy W' row) (hne:some b≠row):eu W' b cs t:=by
 unfold eu;rw[hg.block b h.lt hne];exact h
def PU (cs:Array Value) (xs:List Value):Prop:=∀ off:Nat,∃ (j:Nat) (u:Value),xs[j]?=some u/\cs[off+j]?≠some u
def uG {sz n:Nat} {v:Value} {xs:List Value} (hr:Rd W sz v n xs) (h:eu W b cs t) (ha:0<xs.length->PU cs xs) (vs:List (Nat×Value)):Rd (pts W b vs) sz v n xs:=by
 obtain ⟨h0,a,cap,e,h1,h2,h3,h4⟩:=hr;refine ⟨h0,a,cap,e,h1,h2,h3,fun hp=>?_⟩;obtain ⟨b',off,e2,hc⟩:=h4 hp;refine ⟨b',off,e2,fun j u hj=>?_⟩;have hne:b'≠b:=by
  rintro rfl;obtain ⟨j',u',h5,h6⟩:=ha hp off;have h7:=hc j' u' h5;rw[h.Ee] at h7;exact h6 h7
 exact (yB (p:=⟨b',off+j,none⟩) hne vs W).trans (hc j u hj)
end
/-! ### A slot in its block -/
section
variable {W W':World} {b:Nat} {t:TypeId} {i l:Int} {r:Bool} {a:Option Addr} {n c:Nat}
def eu.g_ (h:eu W b (zM i l r a n c) t):fp W b i l r a n c:=⟨h.cell rfl,h.cell rfl,h.cell rfl,h.cell rfl,h.frozen⟩
def eu.mV (h:eu W b (zM i l r a n c) t) (i' l':Int) (r':Bool) (a':Option Addr) (n' c':Nat):eu (pts W b (zI i' l' r' a' n' c')) b (zM i' l' r' a' n' c') t:=
 (((h.set 0 (.int .i64 i')).set 1 (.int .i64 l')).set 2 (.bool r')).set 3 (.slice a' n' c')
def zKJ (i l:Int) (r:Bool) (a:Option Addr) (n c:Nat) (L:List GP) (hp:0<(L.flatMap iM).length):PU (zM i l r a n c) (L.flatMap iM):=fun off=>by
 match L,hp with
 |p::q,_ =>
  match off with
  |0=>exact ⟨2,.int .i64 p.1.mode,rfl,fun h=>by cases h⟩
  |1=>exact ⟨1,.int .i64 p.1.rev,rfl,fun h=>by cases h⟩
  |2=>exact ⟨0,.int .i64 p.1.num,rfl,fun h=>by cases h⟩
  |3=>exact ⟨0,.int .i64 p.1.num,rfl,fun h=>by cases h⟩
  |k+4=>exact ⟨0,.int .i64 p.1.num,rfl,fun h=>by
    rw[dW (by show 4<=k+4+0;omega)] at h;cases h⟩
def zLD (i l:Int) (r:Bool) (a:Option Addr) (n c:Nat) (L:List It) (hp:0<(zg L).length):PU (zM i l r a n c) (zg L):=fun off=>by
 match L,hp with
 |p::q,_ =>
  match off with
  |0=>exact ⟨0,.int .u64 p.key,rfl,fun h=>by cases h⟩
  |1=>exact ⟨0,.int .u64 p.key,rfl,fun h=>by cases h⟩
  |2=>exact ⟨0,.int .u64 p.key,rfl,fun h=>by cases h⟩
  |3=>exact ⟨0,.int .u64 p.key,rfl,fun h=>by cases h⟩
  |k+4=>exact ⟨0,.int .u64 p.key,rfl,fun h=>by
    rw[dW (by show 4<=k+4+0;omega)] at h;cases h⟩
def zJT (n r md z:Int) (s:Sl) (l g:Int) (L:List It) (hp:0<(zg L).length):PU (zU n r md z s l g) (zg L):=fun off=>by
 match L,hp with
 |p::q,_ =>
  refine ⟨0,.int .u64 p.key,rfl,fun h=>?_⟩
  match off with
  |0=>cases h
  |1=>cases h
  |2=>cases h
  |3=>cases h
  |4=>cases h
  |5=>cases h
  |6=>cases h
  |7=>cases h
  |8=>cases h
  |9=>cases h
  |10=>cases h
  |11=>cases h
  |12=>cases h
  |13=>cases h
  |k+14=>rw[dW (by show 14<=k+14+0;omega)] at h;cases h
def fN.g_ {s:Sl} {f:Nat->List It} (h:fN W s f) (hb:eu W b (zM i l r a n c) t) (vs:List (Nat×Value)):fN (pts W b vs) s f:=fun j hj =>
 xF (n:=(f j).length) (uG (un (h j hj)) hb (fun hp=>zLD _ _ _ _ _ _ _ hp) vs)
def fB.g_ {v:Value} {L:List GP} (h:fB W v L) (hb:eu W b (zM i l r a n c) t) (vs:List (Nat×Value)):fB (pts W b vs) v L:=
 ⟨⟨h.r.1,uG h.r.2 hb (fun hp=>zKJ _ _ _ _ _ _ _ hp) vs⟩,fun p hp=>(h.m p hp).g_ hb vs⟩
def fN.gen {s:Sl} {f:Nat->List It} {n' r' md z:Int} {s':Sl} {l' g:Int} (h:fN W s f) (hb:eu W b (zU n' r' md z s' l' g) t) (vs:List (Nat×Value)):fN (pts W b vs) s f:=fun j hj =>
 xF (n:=(f j).length) (uG (un (h j hj)) hb (fun hp=>zJT _ _ _ _ _ _ _ _ hp) vs)
end
/-! ### A generation in its block -/
section
variable {W W':World} {b:Nat} {t:TypeId} {n r md z:Int} {s:Sl} {l g:Int}
def eu.gen (h:eu W b (zU n r md z s l g) t):eU W b n r md z s l g:=by
 refine ⟨h.cell rfl,h.cell rfl,h.cell rfl,h.cell rfl,fun j hj=>?_,h.cell rfl,h.cell rfl,h.frozen⟩;rcases Li hj with e|e|e|e|e|e|e|e<;>subst e<;>exact h.cell rfl
def eu.pP (h:eu W b (zU n r md z s l g) t) (n' r' md' z':Int) (s':Sl) (l' g':Int):eu (pts W b (zS n' r' md' z' s' l' g')) b (zU n' r' md' z' s' l' g') t:=
 by
  have h1:=eu.sets (zS n' r' md' z' s' l' g') h;have e:(zS n' r' md' z' s' l' g').foldl (fun cs p=>cs.setIfInBounds p.1 p.2) (zU n r md z s l g)=zU n' r' md' z' s' l' g':=by
   simp only[cZ,dD,aJ,aK,aI]
  rw[e] at h1;exact h1
end
/-! ### What operations leave: a generation and its error; a generation; a JJ box; a slot and its error; a slot -/
def zNs (c a b md z:Int) (f:Nat->List It) (L G:Int):lZ:=⟨fun v w=>∃ s,v=.tuple #[ze a b md z s L G,.int .i64 c]/\fN w s f,fun _ _ _ hb ⟨s,h1,h2⟩=>⟨s,h1,h2.bb hb⟩⟩
def zNt (a b md z:Int) (f:Nat->List It) (L G:Int):lZ:=⟨fun v w=>∃ s,v=ze a b md z s L G/\fN w s f,fun _ _ _ hb ⟨s,h1,h2⟩=>⟨s,h1,h2.bb hb⟩⟩
def zMw (t:TypeId) (B:Nat):lZ:=⟨fun v w=>∃ b,v=.pointer (some ⟨b,0,none⟩)/\B<=b/\eu w b (zU 0 0 0 0 Sl.nil 0 0) t,fun _ _ _ hb ⟨b,h1,h2,h3⟩=>⟨b,h1,h2,h3.bb hb⟩⟩
def zNk (L:List Nd):lZ:=⟨fun v w=>∃ a n c es,v=.slice a n c/\mJ w (.slice a n c) es/\es.map (·.1)=L,fun _ _ _ hb ⟨a,n,c,es,h1,h2,h3⟩=>⟨a,n,c,es,h1,h2.bb hb,h3⟩⟩
open Go
section
variable {P:Program} {ops:Array Oper} {md:Region.Mode}
def Td (md:Region.Mode) (ops:Array Oper) (n k:Nat):Bool:=
 decide (n<ops.size)&&decide (k<n) &&
 ((List.range n).all fun i=>decide (i=k)||(List.range (n+1)).any fun j=>decide (i<j)&&decide (j≠k)&&Region.waitsFor md ops j i)&&Region.chainB md ops n &&
 ((List.range n).all fun i=>((ops[i]?).map fun o=>o.dst.isSome&&o.after.all fun e=>!Region.binds md e||decide (e.on<i)).getD false) &&
 ((List.range n).all fun i=>(List.range n).all fun j=>decide (i=j)||decide (zW ops i≠zW ops j)) &&
 Region.seqB md ops (ops.size-n) n ((List.range ops.size).map fun j=>decide (j<n)).toArray &&
 decide (Region.ready md ops ((List.range ops.size).map fun j=>decide (j<=n/\j≠k)).toArray=[k]) &&
 Region.seqB md ops (ops.size-(n+1)) (n+1) ((List.range ops.size).map fun j=>decide (j<=n)).toArray
def zDq {n t:Nat} {listed:Array Bool} {ot:Oper} (hc:Region.chainB md ops n=true) (inv:HeadInv md ops n listed) (ht:n<=t) (htn:t≠n) (PV:ops[t]?=some ot)
  (hall:∀ e∈ot.after,Region.binds md e=true->listed.getD e.on false=true) (htlt:t<ops.size):False:=by
 have h1:=List.all_eq_true.1 hc t (List.mem_range.2 htlt);simp only[Bool.or_eq_true,aR] at h1;rcases h1 with h1|h1
 ·omega
 obtain ⟨o',ho',e,he,hb,hon⟩:=Region.waitsFor_spec h1;have:o'=ot:=Option.some.inj (ho'.symm.trans PV);subst this;have h2:=hall e he hb;rw[hon,getD_both (inv.tail (t-1) (by omega) (by omega))] at h2
 cases h2
def zGN {n k:Nat} {listed:Array Bool} (hs:∀ i,i<n->i≠k->∃ j,j<=n/\i<j/\j≠k/\Region.waitsFor md ops j i=true) (hc:Region.chainB md ops n=true) (hn:n<ops.size) (inv:HeadInv md ops n listed) :
  ∀ (d i:Nat),n-i=d->i<n->i≠k->listed.getD i true=false->∀ t,n<=t->t∉Region.ready md ops listed:=by
 intro d
 induction d using Nat.strongRecOn with
 |_ d ih =>
  intro i hd hi hik hun t ht hr;obtain ⟨_,ot,PV,hall⟩:=mem_ready.1 hr;have htlt:t<ops.size:=(Array.getElem?_eq_some_iff.1 PV).1
  by_cases htn:t=n
  ·subst htn;obtain ⟨j,hjle,hij,hjk,hw⟩:=hs i hi hik;obtain ⟨oj,Nw,e,he,hb,hon⟩:=Region.waitsFor_spec hw
   by_cases hjt:j=t
   ·subst hjt;have:oj=ot:=Option.some.inj (Nw.symm.trans PV);subst this;have h2:=hall e he hb;rw[hon,getD_both hun] at h2
    cases h2
   cases hl:listed.getD j false with
   |true =>
    have h2:=inv.closed j oj Nw hl e he hb;rw[hon,getD_both hun] at h2
    cases h2
   |false =>
    have jw:j<listed.size:=by rw[inv.size];omega
    exact ih (t-j) (by omega) j rfl (by omega) hjk (getD_in jw hl) t (ag _) hr
  exact zDq hc inv ht htn PV hall htlt
variable {Q:Exit->Act->World->Prop}
def zJ4 {n k:Nat} {a0:Act} {w0:World} {Φ:Nat->Value->World->Prop} {F:Nat->Prop} {l:List Oper} {on ok:Oper} (hl:ops=l.toArray) (hB:Td md ops n k=true) (hon:ops[n]?=some on) (hok:ops[k]?=some ok) (NP:¬ F k) (hN:∀ i,i<n->∀ t,zW ops i=some t->t<a0.tmps.size)
  (mono:∀ j,j<n->∀ v w1 w2,Below w1.heap.size w1 w2->Φ j v w1->Φ j v w2)
  (head:∀ i o,i<n->ops[i]?=some o->∀ f w1,Below w0.heap.size w0 w1->(∀ e∈o.after,Region.binds md e=true->Φ e.on (f e.on) w1) ->
   wpList P ops (Exit.then (tq (Φ i) (F i) (fU ops a0 f n).defers o.dst w1) Q) [o] (fU ops a0 f n) w1)
  (tail:∀ f w1,Below w0.heap.size w0 w1->(∀ j,j<n->Φ j (f j) w1)->(∀ j k,j<n->k<n->j≠k->F j->F k->blk (f j)≠blk (f k))->wpList P ops Q (l.drop n) (fU ops a0 f n) w1)
  (Gx:∀ f w1,Below w0.heap.size w0 w1->(∀ j,j<n->j≠k->Φ j (f j) w1)->(∀ j k,j<n->k<n->j≠k->F j->F k->blk (f j)≠blk (f k))->wpList P ops Q (on::ok::l.drop (n+1)) (fU ops a0 f n) w1) :
  ∀ (fuel:Nat) (T:List Nat) (s:Array Bool) (f:Nat->Value) (w:World),T.Nodup->T.length=fuel->(∀ j,j<n->(s.getD j false=false↔j∈T))->(∀ j∈T,j<n)->HeadInv md ops n s->Below w0.heap.size w0 w ->
   (∀ j,j<n->s.getD j false=true->Φ j (f j) w)->(∀ j,j<n->s.getD j false=true->F j->blk (f j)<w.heap.size) ->
   (∀ j k,j<n->k<n->j≠k->s.getD j false=true->s.getD k false=true->F j->F k->blk (f j)≠blk (f k))->wpAny P md ops Q (fuel+(ops.size-n)) s (fU ops a0 f n) w:=by
 simp only[Td,aO,aR] at hB;obtain ⟨⟨⟨⟨⟨⟨⟨⟨hn,hkn⟩,hs0⟩,hc⟩,hfw⟩,hdd⟩,Jr⟩,hrk⟩,Xd⟩:=hB;have hs:∀ i,i<n->i≠k->∃ j,j<=n/\i<j/\j≠k/\Region.waitsFor md ops j i=true:=fun i hi hik=>by
  have h1:=List.all_eq_true.1 hs0 i (List.mem_range.2 hi);rw[Bool.or_eq_true,aR] at h1;rcases h1 with h1|h1
  ·exact absurd h1 hik
  obtain ⟨j,hj,h2⟩:=List.any_eq_true.1 h1;simp only[aO,aR] at h2;exact ⟨j,by have:=List.mem_range.1 hj;omega,h2.1.1,h2.1.2,h2.2⟩
 have sH:∀ i o,i<n->ops[i]?=some o->o.dst.isSome=true/\∀ e∈o.after,Region.binds md e=true->e.on<i:=fun i o hi ho=>by
  have:=List.all_eq_true.1 hfw i (List.mem_range.2 hi);rw[ho] at this;simp only[dN,bC,aO] at this;refine ⟨this.1,fun e he hb=>?_⟩;have h2:=Array.all_eq_true_iff_forall_mem.1 this.2 e he;rw[hb] at h2
  simpa using h2
 have Bd:∀ i j,i<n->j<n->i≠j->zW ops i≠zW ops j:=fun i j hi hj hij=>by
  have:=List.all_eq_true.1 (List.all_eq_true.1 hdd i (List.mem_range.2 hi)) j (List.mem_range.2 hj)
  simpa [hij] using this
 intro fuel
 induction fuel with
 |zero =>
  intro T s f w hT hlen mS Al inv hb hΦ hF D5;have Js:T=[]:=List.length_eq_zero_iff.1 hlen;subst Js;have hall:∀ j,j<n->s.getD j false=true:=fun j hj=>by
   cases h:s.getD j false with
   |true=>rfl
   |false=>exact absurd ((mS j hj).1 h) (by simp)
  have Iw:s=((List.range ops.size).map fun j=>decide (j<n)).toArray:=by
   apply Array.ext
   ·simp[inv.size]
   intro j h1 h2;have jw:j<ops.size:=by rw[<- inv.size];exact h1
   simp only[aV,dB,dS]
   by_cases e:j<n
   ·have:=hall j e;rw[bB,bI h1] at this;simp only[bC] at this;rw[this];simp[e]
   have:=inv.tail j (by omega) jw;rw[bB,bI h1] at this;simp only[bC] at this;rw[this];simp[e]
  rw[aN];have iz:(l.drop n).length=ops.size-n:=by rw[hl];simp
  have h3:=wpAny_of_seq (P:=P) (md:=md) (ops:=ops) (Q':=Q) (l.drop n) n s (fU ops a0 f n) w (fun j=>by rw[hl];simp[cR]) (by rw[iz,Iw];exact Jr) (tail f w hb (fun j hj=>hΦ j hj (hall j hj)) fun j k hj hk hjk=>D5 j k hj hk hjk (hall j hj) (hall k hk))
  rwa [iz] at h3
 |succ fuel ih =>
  intro T s f w hT hlen mS Al inv hb hΦ hF D5;have Be:T≠[]:=fun e=>by rw[e] at hlen;cases hlen
  obtain ⟨m,hm,hle⟩:=qM Be;have hmn:=Al m hm;have hun:s.getD m false=false:=(mS m hmn).2 hm;have Gl:m<s.size:=by rw[inv.size];omega
  obtain ⟨om,D6⟩:∃ o,ops[m]?=some o:=⟨_,bI (by omega)⟩
  have l6:m∈Region.ready md ops s:=mem_ready.2 ⟨getD_in Gl hun,om,D6,fun e he lK=>by
   have h1:=(sH m om hmn D6).2 e he lK
   cases h2:s.getD e.on false with
   |true=>rfl
   |false =>
    have:=hle _ ((mS e.on (by omega)).1 h2)
    omega⟩
  rw[show fuel+1+(ops.size-n)=(fuel+(ops.size-n))+1 by omega];refine ⟨fun e=>absurd l6 (by rw[e];simp),fun i hi=>?_⟩;obtain ⟨Fw,oi,hoi,nM⟩:=mem_ready.1 hi
  by_cases PW:n<=i
  ·-- the late one alone is left,and the Xe first comes ahead of it
   have WL:i<ops.size:=(Array.getElem?_eq_some_iff.1 hoi).1;have Xf:i=n:=Classical.byContradiction fun e=>zDq hc inv PW e hoi nM WL
   subst Xf;have AV:∀ j,j<i->j≠k->s.getD j false=true:=fun j hj hjk=>by
    cases h:s.getD j false with
    |true=>rfl
    |false=>exact absurd hi (zGN hs hc hn inv _ j rfl hj hjk (getD_in (by rw[inv.size];omega) h) i (ag _))
   have hku:s.getD k false=false:=by
    cases h:s.getD k false with
    |false=>rfl
    |true =>
     have:s.getD m false=true:=by
      by_cases e:m=k
      ·rw[e];exact h
      exact AV m hmn e
     rw[this] at hun;cases hun
   have hf0:fuel=0:=by
    have h1:∀ j∈T,j=k:=fun j hj=>by
     refine Classical.byContradiction fun e=>?_
     have h2:=(mS j (Al j hj)).2 hj;rw[AV j (Al j hj) e] at h2
     cases h2
    match T,hT,hlen,h1 with
    |[x],_,hlen,_=>simpa using hlen.symm
    |x::y::r,hT,_,h1 =>
     have e1:=h1 x (by simp);have e2:=h1 y (by simp);rw[e1,e2] at hT;simp at hT
   subst hf0;have hss:s.setIfInBounds i true=((List.range ops.size).map fun j=>decide (j<=i/\j≠k)).toArray:=by
    apply Array.ext
    ·simp[inv.size]
    intro j h1 h2;have jw:j<ops.size:=by simpa [inv.size] using h1
    have JK:j<s.size:=by rw[inv.size];exact jw
    simp only[aV,dB,dS];rw[Array.getElem_setIfInBounds JK]
    by_cases e:i=j
    ·rw[ah e];simp only[<- e];simp;omega
    rw[ai e]
    by_cases e2:j<i
    ·by_cases e3:j=k
     ·have hkk:=hku;rw[<- e3,bB,bI JK] at hkk;simp only[bC] at hkk;rw[hkk];simp[e3]
     have:=AV j e2 e3;rw[bB,bI JK] at this;simp only[bC] at this;rw[this];simp[e3];omega
    have:=inv.tail j (by omega) jw;rw[bB,bI JK] at this;simp only[bC] at this;rw[this];simp;omega
   have Xg:(s.setIfInBounds i true).setIfInBounds k true=((List.range ops.size).map fun j=>decide (j<=i)).toArray:=by
    rw[hss];apply Array.ext
    ·simp
    intro j h1 h2;have jw:j<ops.size:=by simpa using h1
    rw[Array.getElem_setIfInBounds (by simpa using h1)];simp only[aV,dB,dS]
    by_cases e:k=j
    ·rw[ah e];subst e;simp;omega
    rw[ai e];have e':¬ j=k:=fun e2=>e e2.symm
    simp[e']
   have ht2:=Gx f w hb (fun j hj hjk=>hΦ j hj (AV j hj hjk)) fun j k' hj hk' hjk CY II=>by
    have a1:j≠k:=fun e=>NP (e▸CY)
    have a2:k'≠k:=fun e=>NP (e▸II)
    exact D5 j k' hj hk' hjk (AV j hj a1) (AV k' hk' a2) CY II
   have hw1:wpOp P ops Q i (wpList P ops Q (ok::l.drop (i+1))) (fU ops a0 f i) w:=by unfold wpOp;simp only[hon];exact ht2
   have hg:0+(ops.size-i)=(ops.size-(i+1))+1:=by omega
   rw[hg];refine wpOp_mono (fun a' w' h'=>?_) hw1;refine ⟨fun e=>?_,fun j hj=>?_⟩
   ·rw[hss,hrk] at e;cases e
   rw[hss,hrk] at hj;have hjk:j=k:=by simpa using hj
   subst hjk;have hw2:wpOp P ops Q j (wpList P ops Q (l.drop (i+1))) a' w':=by unfold wpOp;simp only[hok];exact h'
   refine wpOp_mono (fun a'' w'' h''=>?_) hw2;rw[Xg];have iz:(l.drop (i+1)).length=ops.size-(i+1):=by rw[hl];simp
   have h3:=wpAny_of_seq (P:=P) (md:=md) (ops:=ops) (Q':=Q) (l.drop (i+1)) (i+1) _ a'' w'' (fun j=>by rw[hl];simp[cR]) (by rw[iz];exact Xd) h''
   rwa [iz] at h3
  have hin:i<n:=Nat.lt_of_not_le PW;have Jt:i∈T:=(mS i hin).1 (getD_both Fw);have D7:=sH i oi hin hoi;have o9:zW ops i=oi.dst:=by unfold zW;rw[hoi];rfl
  unfold wpOp;rw[hoi];simp only[];have hh:=head i oi hin hoi f w hb fun e he lK=>hΦ e.on (by have:=D7.2 e he lK;omega) (nM e he lK)
  refine Pt hh (fun v w' hR=>?_) (fun d v w' hR=>?_)
  ·obtain ⟨_,fS,hv⟩:=hR;have hval:∀ i,i<n->oi.dst.isSome=true->zW ops i=oi.dst->(∀ t,oi.dst=some t->Φ i (((fU ops a0 f n).put oi.dst v).tmps.getD t undef) w'/\(F i->w.heap.size<=blk (((fU ops a0 f n).put oi.dst v).tmps.getD t undef)/\blk (((fU ops a0 f n).put oi.dst v).tmps.getD t undef)<w'.heap.size))->Φ i v w'/\(F i->w.heap.size<=blk v/\blk v<w'.heap.size):=fun i hi h1 o9 h=>by
    obtain ⟨t,ht⟩:=Option.isSome_iff_exists.1 h1;have h4:=h t ht;have h5:t<(fU ops a0 f n).tmps.size:=by rw[tH];exact hN i hi t (by rw[o9,ht])
    rw[ht] at h4
    simpa [Act.put,h5] using h4
   rw[<- o9,qZ ops a0 f i v n hin fun j hj hji=>.inr (Bd i j hin hj (aQ hji))];refine ih (T.erase i) _ _ w' (hT.erase i) (by rw[List.length_erase_of_mem Jt];omega) (fun j hj=>?_) (fun j hj=>Al j (List.mem_of_mem_erase hj)) (inv.set hi hin) (zA hb fS) (fun j hj jw=>?_) (fun j hj jw CY=>?_) (fun j k hj hk hjk jw hks CY II=>?_)
   ·rw[hT.mem_erase_iff]
    by_cases e:j=i
    ·subst e;have jw:j<s.size:=by rw[inv.size];omega
     simp[bB,jw]
    rw[bH false (aQ e),mS j hj];simp[e]
   ·by_cases e:j=i
    ·subst e;have:xM f j v j=v:=ah rfl;rw[this];exact (hval j hj D7.1 o9 hv).1
    have:xM f i v j=f j:=ai e;rw[this];rw[bH false (aQ e)] at jw;exact mono j hj _ _ _ fS (hΦ j hj jw)
   ·by_cases e:j=i
    ·subst e;have:xM f j v j=v:=ah rfl;rw[this];exact ((hval j hj D7.1 o9 hv).2 CY).2
    have:xM f i v j=f j:=ai e;rw[this];rw[bH false (aQ e)] at jw;exact cH (hF j hj jw CY) fS.size
   by_cases e:j=i
   ·subst e;have e1:xM f j v j=v:=ah rfl;have e2:xM f j v k=f k:=ai (aQ hjk);rw[e1,e2];rw[bH false hjk] at hks;have h1:=((hval j hj D7.1 o9 hv).2 CY).1;have h2:=hF k hk hks II;omega
   have e1:xM f i v j=f j:=ai e;rw[e1];rw[bH false (aQ e)] at jw
   by_cases e3:k=i
   ·subst e3;have e2:xM f k v k=v:=ah rfl;rw[e2];have h1:=((hval k hk D7.1 o9 hv).2 II).1;have h2:=hF j hj jw CY;omega
   have e2:xM f i v k=f k:=ai e3;rw[e2];rw[bH false (aQ e3)] at hks;exact D5 j k hj hk hjk jw hks CY II
  have h1:=hR.1;have h2:=aM List.length h1
  cases Ju:oi.dst<;>simp[Act.put,Ju] at h2
def yQ {id:Nat} {a0:Act} {w:World} {l:List Oper} (L:List lZ) (F:List Nat) (N k:Nat) {on ok:Oper} (hm:P.follows .mixedOrders=true) (hB:Td .any l.toArray L.length k=true) (hon:l.toArray[L.length]?=some on) (hok:l.toArray[k]?=some ok) (NP:k∉F)
  (hsz:a0.tmps.size=N) (hN:Pu l.toArray L.length N=true) {fr:(Nat->Value)->Act} (hfr:∀ f,fU l.toArray a0 f L.length=fr f)
  (head:Pv P Q l.toArray L F fr w l L 0)
  (tail:∀ f w1,Below w.heap.size w w1->(∀ j,j<L.length->(stA L j).p (f j) w1)->(∀ j k,j<L.length->k<L.length->j≠k->j∈F->k∈F->blk (f j)≠blk (f k))->wpList P l.toArray Q (l.drop L.length) (fr f) w1)
  (Gx:∀ f w1,Below w.heap.size w w1->(∀ j,j<L.length->j≠k->(stA L j).p (f j) w1)->(∀ j k,j<L.length->k<L.length->j≠k->j∈F->k∈F->blk (f j)≠blk (f k))->wpList P l.toArray Q (on::ok::l.drop (L.length+1)) (fr f) w1):(Code.region id l.toArray true).wp P Q a0 w:=by
 have hn:L.length<l.toArray.size:=by
  simp only[Td,aO,aR] at hB;exact hB.1.1.1.1.1.1.1.1
 refine wp_region_any hm ?_;have h:=zJ4 (k:=k) (md:=.any) (Q:=Q) (P:=P) (n:=L.length) (a0:=a0) (w0:=w) (Φ:=fun j=>(stA L j).p) (F:=fun j=>j∈F) rfl hB hon hok NP
  (fun i hi t ht=>by
   have h1:=List.all_eq_true.1 hN i (List.mem_range.2 hi)
   rw[ht] at h1
   rw[hsz]
   simpa using h1)
  (fun j _ v w1 w2 hb h=>(stA L j).m v w1 w2 hb h)
  (fun i o hi ho f w1 hb hd=>by
   rw[hfr]
   have hS:L[i]?=some (stA L i):=by
    unfold stA
    rw[aw,aA hi];rfl
   have h2:=SR l L 0 head i o (stA L i) (by simpa using ho) hS f w1 hb (fun j hj=>by
    unfold Jv at hj
    obtain ⟨e,he,h3⟩:=Array.any_eq_true'.1 hj
    simp only[aO,cM] at h3
    rw[<- h3.2]
    exact hd e he h3.1)
   rwa [aN] at h2)
  (fun f w1 hb hΦ D5=>by rw[hfr];exact tail f w1 hb hΦ D5)
  (fun f w1 hb hΦ D5=>by rw[hfr];exact Gx f w1 hb hΦ D5)
  L.length (List.range L.length) (Array.replicate l.toArray.size false) (fun j=>match zW l.toArray j with|some d=>a0.tmps.getD d undef|none=>undef) w.drew
  List.nodup_range (by simp) (fun j hj=>by rw[getD_replicate_false];simp[hj]) (fun j hj=>by simpa using hj)
  ⟨by simp,fun j oj _ hl=>(by rw[getD_replicate_false] at hl;cases hl),fun t _ ht=>getD_in (by simpa using ht) (getD_replicate_false _ _)⟩
  (zV (aj _ _)) (fun j _ hl=>by rw[getD_replicate_false] at hl;cases hl) (fun j _ hl=>by rw[getD_replicate_false] at hl;cases hl) (fun j k _ _ _ hl=>by rw[getD_replicate_false] at hl;cases hl)
 have e0:fU l.toArray a0 (fun j=>match zW l.toArray j with|some d=>a0.tmps.getD d undef|none=>undef) L.length=a0:=NG _ _ _;rw[e0,show L.length+(l.toArray.size-L.length)=l.toArray.size by omega] at h;exact h
end
end Go.Proofs.YtcgfilmmokmdjaaGreat
