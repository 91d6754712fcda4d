import Derived.Test.YtcgfilmmokmdjaaGreatQAS
set_option linter.all false
set_option maxRecDepth 100000
set_option maxHeartbeats 32000000
namespace Go.Proofs.YtcgfilmmokmdjaaGreat
variable {i:Nat}
def zID {s:fk} {j:Nat} (h:i≠j) (a b:Gn):wg (wg s i a) j b=wg (wg s j b) i a:=by
 unfold wg;dsimp only;rw[List.set_comm _ _ h]
def zFs {s:fk} {j:Nat} (hi:i<s.ep.length) (h:j≠i) (a:Gn):fh (wg s i a).ep j=fh s.ep j:=by
 show fh (s.ep.set i a) j=_
 rw[vU hi,ai h]
def jx.QC {S:fk} {x:Nd} (hc:jx S x) {r:Nat} (hr:r+1<S.ep.length) (g:Gn):jx (wg S r g) x:=by
 unfold jx;rw[kB hr];exact hc
variable {P:fP}
def zKL (h:fg P.t) {x:Nd} (hc:jx P.t x) {r:Nat} (hr:r+1<P.t.ep.length) (key:Int) :
  yU key (xR P x) (fh P.t.ep r).num=xR (yU key P (fh P.t.ep r).num) x:=by
 have hlen:=h.len;have ha:=TE h hc;have hk:=QB h hc;have hr2:r+1<(xR P x).t.ep.length:=by rw[hk.len];exact hr
 have e1:(yU key P (fh P.t.ep r).num).t=wg P.t r (uU (fh P.t.ep r) key):=by
  show (yK P.t _ [key]).1=_
  rw[uv h hr]
 have hv2:fg (yU key P (fh P.t.ep r).num).t:=by rw[e1];exact ((Kp.refl h).set (fit_drop h hr key)).v
 have e2:(xR (yU key P (fh P.t.ep r).num) x).t=wg (wg P.t r (uU (fh P.t.ep r) key)) (P.t.ep.length-1) (yp (zZ P.t) x):=by
  rw[TE hv2 (by rw[e1];exact hc.QC hr _),e1,kB hr]
  show wg _ ((P.t.ep.set r _).length-1) _=_
  rw[a_]
 have e3:(yU key (xR P x) (fh P.t.ep r).num).t=wg (wg P.t (P.t.ep.length-1) (yp (zZ P.t) x)) r (uU (fh P.t.ep r) key):=by
  show (yK (xR P x).t _ [key]).1=_
  rw[<- hk.num r (by omega),uv hk.v hr2,ha,zFs (by omega) (by omega)]
 have e4:(yU key (xR P x) (fh P.t.ep r).num).t=(xR (yU key P (fh P.t.ep r).num) x).t:=by
  rw[e3,e2,zID (by omega)]
 show ({xR P x with t:=(yU key (xR P x) (fh P.t.ep r).num).t,eE:=Ed P.eE (fh P.t.ep r).num key}:fP)={yU key P (fh P.t.ep r).num with t:=(xR (yU key P (fh P.t.ep r).num) x).t,needs:=P.needs++[x],bytes:=P.bytes+(eY x.data.length:Int)}
 rw[e4]
 rfl
def zDm {S:fk} {key:Int} {x:Nd}:∀ (l:List Int) (P:fP),Kp S P.t->zZ P.t=zZ S->jx P.t x->(∀ y∈l,∃ r,r+1<S.ep.length/\y=(fh S.ep r).num)->l.foldl (yU key) (xR P x)=xR (l.foldl (yU key) P) x
 |[],_,_,_,_,_=>rfl
 |y::l,P,h,ht,hc,hl=>by
  obtain ⟨r,hr,e⟩:=hl y (by simp);have hr2:r+1<P.t.ep.length:=by rw[h.len];exact hr
  have e2:(yU key P y).t=wg P.t r (uU (fh P.t.ep r) key):=by
   show (yK P.t y [key]).1=_
   rw[e,<- h.num r (by omega),uv h.v hr2]
  show l.foldl (yU key) (yU key (xR P x) y)=xR (l.foldl (yU key) (yU key P y)) x
  rw[e,<- h.num r (by omega),zKL h.v hc hr2,h.num r (by omega),<- e];exact zDm l (yU key P y) (by rw[e2];exact h.set (fit_drop h.v hr2 key)) (by rw[e2,kB hr2];exact ht) (by rw[e2];exact hc.QC hr2 _) fun z hz=>hl z (by simp[hz])
noncomputable def Yg (P:fP) (q:Rq):fP:=(zd P.t q.key).foldl (yU q.key) (if wO P.t q.key=true then xR P (uH q) else P)
def zK6 (h:fg P.t) (q:Rq):Yg P q=wY P q:=by
 unfold Yg wY;rw[zCR h]
 split
 ·rename_i hb;exact zDm _ P (Kp.refl h) rfl (Ye ((tE h _).1 hb)) fun _ hx=>Yc h hx
 rfl
def AY.room (h:AY P):0<P.bytes↔0<P.needs.length:=by
 have h1:=zHO h.ok;have h2:=h.b
 constructor
 ·intro hb
  cases e:P.needs with
  |nil=>rw[e] at h2;exfalso;rw[h2] at hb;exact absurd hb (by decide)
  |cons x r=>simp
 intro hn;omega
open Go.RowKit
structure gU (W:World) (B:Nat) (v:Value) (L:List GP):Prop where
 r:iI W B 113 14 v L.length (L.flatMap iM)
 m:∀ p∈L,jm W B p.2 p.1.m.st
def gU.rd {W:World} {B:Nat} {v:Value} {L:List GP} (h:gU W B v L):fB W v L:=⟨⟨fun x _=>tJ x,h.r.1⟩,fun p hp=>(h.m p hp).rd⟩
def gU.bb {W W':World} {B:Nat} {v:Value} {L:List GP} (h:gU W B v L) (hb:Below W.heap.size W W'):gU W' B v L:=⟨h.r.bb hb,fun p hp=>(h.m p hp).bb hb⟩
def gU.ik {W W':World} {B b:Nat} {T':TypeId} {v:Value} {L:List GP} (h:gU W B v L) (ho:gO W W' B b T') (h1:113≠T') (h2:49≠T'):gU W' B v L:=⟨h.r.ik ho h1,fun p hp i hi=>(h.m p hp i hi).ik ho h2⟩
def gU.old {W:World} {B:Nat} {v:Value} {L:List GP} (h:fB W v L) (hB:W.heap.size<=B):gU W B v L:=⟨iI.old h.r.2 hB,fun p hp i hi=>iI.old (un (h.m p hp i hi)) hB⟩
def zMe (L:List GP):(L.flatMap iM).length=L.length*14:=by
 induction L with
 |nil=>rfl
 |cons p r ih=>rw[cC,ax,ih,tJ,aW];omega
def gU.own {W:World} {B B' n:Nat} {v:Value} {L:List GP} (h:W.ownsRow B' 113 14 v n (L.flatMap iM)) (hm:∀ p∈L,jm W B p.2 p.1.m.st):gU W B v L:=by
 have e:=h.1;rw[zMe] at e;obtain rfl:n=L.length:=by omega
 exact ⟨iI.own h,hm⟩
structure iO (W:World) (B:Nat) (v:Value) (ks:List KP):Prop where
 row:W.ownsRow B 103 2 v ks.length (ks.flatMap iy)
 keys:∀ p∈ks,W.ownsRow B 24 1 p.2.1 p.2.2.length (p.2.2.map Fc)
 apart:ks.Pairwise fun p q=>p.2.1.ownBlock=none∨p.2.1.ownBlock≠q.2.1.ownBlock
variable {W W':World} {B:Nat} {v:Value} {ks:List KP}
def iO.bb (h:iO W B v ks) (hb:Below W.heap.size W W'):iO W' B v ks:=⟨zE h.row hb,fun p hp=>zE (h.keys p hp) hb,h.apart⟩
variable {b:Nat} {T':TypeId}
def iO.ik (h:iO W B v ks) (ho:gO W W' B b T') (h1:103≠T') (h2:24≠T'):iO W' B v ks:=⟨yT h.row ho h1,fun p hp=>yT (h.keys p hp) ho h2,h.apart⟩
abbrev BS (i l:Int) (r:Bool) (ga:Option Addr) (gn gc:Nat) (eH:Bool) (tk:Int) (kv nv rv:Value) (iC:Int):Array Value:=#[.int .i64 i,.int .i64 l,.bool r,.slice ga gn gc,.bool eH,.int .i64 tk,kv,nv,rv,.int .i64 iC]
structure rY (W:World) (B:Nat) (P:fP) (ga:Option Addr) (gn gc:Nat) (L:List GP) (kv:Value) (ks:List KP) (nv:Value) (es:List (Nd×Value)) (rv:Value):Prop where
 g:gU W B (.slice ga gn gc) L
 gg:ey L=P.t.ep
 k:iO W B kv ks
 kk:gV ks=P.eE
 n:gH W B nv es
 nn:es.map (·.1)=P.needs
 r:W.ownsRow B 39 1 rv P.res.length (P.res.map qQ)
section
variable {W W':World} {B b:Nat} {P:fP} {ga:Option Addr} {gn gc:Nat} {L:List GP} {kv:Value} {ks:List KP} {nv:Value} {es:List (Nd×Value)} {rv:Value}
def rY.bb (h:rY W B P ga gn gc L kv ks nv es rv) (hb:Below W.heap.size W W'):rY W' B P ga gn gc L kv ks nv es rv:=
 ⟨h.g.bb hb,h.gg,h.k.bb hb,h.kk,h.n.bb hb,h.nn,zE h.r hb⟩
def rY.ik (h:rY W B P ga gn gc L kv ks nv es rv) (ho:gO W W' B b 197):rY W' B P ga gn gc L kv ks nv es rv:=
 ⟨h.g.ik ho (by decide) (by decide),h.gg,h.k.ik ho (by decide) (by decide),h.kk,h.n.ik ho (by decide) (by decide),h.nn,yT h.r ho (by decide)⟩
end
abbrev BU (W:World) (b:Nat) (i l:Int) (r:Bool) (ga:Option Addr) (gn gc:Nat) (eH:Bool) (tk:Int) (kv nv rv:Value) (iC:Int):Prop:=eu W b (BS i l r ga gn gc eH tk kv nv rv iC) 197
def mX (W:World) (B b:Nat) (tk:Int) (P:fP):Prop:=∃ ga gn gc L kv ks nv es rv,B<=b/\BU W b P.t.id P.t.lim P.t.ro ga gn gc P.eH tk kv nv rv P.bytes/\rY W B P ga gn gc L kv ks nv es rv
def mX.bb {W W':World} {B b:Nat} {tk:Int} {P:fP} (h:mX W B b tk P) (hb:Below W.heap.size W W'):mX W' B b tk P:=by
 obtain ⟨ga,gn,gc,L,kv,ks,nv,es,rv,h1,h2,h3⟩:=h;exact ⟨ga,gn,gc,L,kv,ks,nv,es,rv,h1,h2.bb hb,h3.bb hb⟩
def TF (B:Nat) (p:fk×Int):lZ:=⟨fun v w=>∃ a n c L,v=.tuple #[zQ p.1.id p.1.lim p.1.ro a n c,.int .i64 p.2]/\gU w B (.slice a n c) L/\ey L=p.1.ep,fun _ _ _ hb ⟨a,n,c,L,h1,h2,h3⟩=>⟨a,n,c,L,h1,h2.bb hb,h3⟩⟩
def zMs (B:Nat) (s:fk):lZ:=⟨fun v w=>∃ a n c L,v=zQ s.id s.lim s.ro a n c/\gU w B (.slice a n c) L/\ey L=s.ep,fun _ _ _ hb ⟨a,n,c,L,h1,h2,h3⟩=>⟨a,n,c,L,h1,h2.bb hb,h3⟩⟩
variable {ga:Option Addr} {gn gc:Nat} {L:List GP} {kv nv rv:Value} {es:List (Nd×Value)}
def rY.slot {jo:Option Addr} {jq gc':Nat} {L':List GP} (h:rY W B P ga gn gc L kv ks nv es rv) (s:fk) (hg:gU W B (.slice jo jq gc') L') (rh:ey L'=s.ep):rY W B {P with t:=s} jo jq gc' L' kv ks nv es rv:=
 ⟨hg,rh,h.k,h.kk,h.n,h.nn,h.r⟩
def gU.fC (h:gU W B v L) (ho:fM W W' B T') (h1:113≠T') (h2:49≠T'):gU W' B v L:=by
 rcases ho with ho|⟨g,ho⟩
 ·exact h.bb ho
 exact h.ik ho h1 h2
def iO.fC (h:iO W B v ks) (ho:fM W W' B T') (h1:103≠T') (h2:24≠T'):iO W' B v ks:=by
 rcases ho with ho|⟨g,ho⟩
 ·exact h.bb ho
 exact h.ik ho h1 h2
def mT:List TypeId:=[197,56,103,24,39]
structure fD (B:Nat) (w W:World):Prop where
 b:Below B w W
 k:∀ (i:Nat) (c:Array Value) (T:TypeId) (f:Nat×Nat),w.heap[i]?=some (Obj.cells c T f)->T∉mT->W.heap[i]?=some (Obj.cells c T f)
def fD.size {B:Nat} {w W:World} (h:fD B w W):w.heap.size<=W.heap.size:=h.b.size
def fD.refl (B:Nat) (w:World):fD B w w:=⟨aj _ _,fun _ _ _ _ h _=>h⟩
variable {w:World}
def fD.of (h:Below w.heap.size w W) (hB:B<=w.heap.size):fD B w W:=⟨h.mono hB,fun i c T f h1 _=>by rw[h.block i (Array.getElem?_eq_some_iff.1 h1).1];exact h1⟩
def fD.trans {B:Nat} {w W W':World} (h:fD B w W) (h2:fD B W W'):fD B w W':=⟨h.b.trans h2.b,fun i c T f h1 hT=>h2.k i c T f (h.k i c T f h1 hT) hT⟩
def fD.step (h:fD B w W) (hb:Below W.heap.size W W') (hB:B<=W.heap.size):fD B w W':=h.trans (fD.of hb hB)
variable {B':Nat} {T:TypeId}
def fD.fC (h:fD B w W) (ho:fM W W' B' T) (hT:T∈mT) (hb:Below B w W'):fD B w W':=⟨hb,fun i c T2 f h1 Qf=>by
 have h2:=h.k i c T2 f h1 Qf
 have hlt:=(Array.getElem?_eq_some_iff.1 h2).1
 rcases ho with ho|⟨g,ho⟩
 ·rw[ho.block i hlt];exact h2
 rw[ho.blk i hlt (fun e=>by
  obtain ⟨c',f',h3⟩:=ho.ty
  rw[<- e,h2] at h3
  injection h3 with h3
  injection h3 with _ h3
  exact Qf (h3▸hT))]
 exact h2⟩
def fD.pts {B b:Nat} {w W:World} {T:TypeId} (h:fD B w W) (hlo:B<=b) (vs:List (Nat×Value)) (ht:∃ c f,W.heap[b]?=some (.cells c T f)) (hT:T∈mT):fD B w (Go.Proofs.YtcgfilmmokmdjaaGreat.pts W b vs):=
 h.fC (.inr ⟨b,gO.pts hlo ht vs⟩) hT (zC hlo vs h.b)
variable {n:Nat}
def fD.own {sz:Nat} {xs:List Value} (h:fD B w W) (hown:W.ownsRow B T sz v n xs) (hB:B<=W.heap.size) (hg:W.grownBy W' v.ownBlock) (hT:T∈mT):fD B w W':=
 h.fC (fM.row hown hg (ag B)) hT (zK h.b hown hB hg)
def fD.box {cs:Array Value} (h:fD B w W) (hb:eu w b cs T) (hT:T∉mT):eu W b cs T:=h.k _ _ _ _ hb hT
def rY.need {oT:Value} (h:rY W B P ga gn gc L kv ks nv es rv) (x:Nd) (dv:Value) (hd:gD W B dv x.data)
  (hg:W.grownBy W' nv.ownBlock) (ho:W'.ownsRow B 56 4 oT (es.length+1) (xI es++vI (x,dv))):rY W' B {P with needs:=P.needs++[x]} ga gn gc L kv ks oT (es++[(x,dv)]) rv:=by
 have hO:=fM.row h.n.row hg (ag _);refine ⟨h.g.fC hO (by decide) (by decide),h.gg,h.k.fC hO (by decide) (by decide),h.kk,⟨?_,fun p hp=>?_⟩,?_,yV h.r hO (by decide)⟩
 ·have e:xI (es++[(x,dv)])=xI es++vI (x,dv):=by unfold xI;rw[cn];simp
  rw[e,ax];exact ho
 ·rcases List.mem_append.1 hp with hp|hp
  ·exact iI.fC (h.n.dat p hp) hO (by decide)
  obtain rfl:=List.mem_singleton.1 hp;exact iI.fC hd hO (by decide)
 rw[aU,h.nn];rfl
def zNS (i l:Int) (r:Bool) (ga:Option Addr) (gn gc:Nat) (eH:Bool) (tk:Int) (kv nv rv:Value) (iC:Int) (u:Value):(BS i l r ga gn gc eH tk kv nv rv iC).setIfInBounds 7 u=BS i l r ga gn gc eH tk kv u rv iC:=by
 simp only[aJ,aK,aI]
def zNU (i l:Int) (r:Bool) (ga:Option Addr) (gn gc:Nat) (eH:Bool) (tk:Int) (kv nv rv:Value) (iC z:Int):(BS i l r ga gn gc eH tk kv nv rv iC).setIfInBounds 9 (.int .i64 z)=BS i l r ga gn gc eH tk kv nv rv z:=by
 simp only[aJ,aK,aI]
def qW (i l:Int) (r:Bool) (ga:Option Addr) (gn gc:Nat) (eH:Bool) (tk:Int) (kv nv rv:Value) (iC:Int) (i' l':Int) (r':Bool) (jo:Option Addr) (jq gc':Nat) :
  (zI i' l' r' jo jq gc').foldl (fun cs p=>cs.setIfInBounds p.1 p.2) (BS i l r ga gn gc eH tk kv nv rv iC)=BS i' l' r' jo jq gc' eH tk kv nv rv iC:=by
 simp only[cZ,dD,aJ,aK,aI]
def gU.Ma {L':List GP} {y:GP} (h:W.ownsRow B' 113 14 v n (L'.flatMap iM)) (hq:∀ q∈L',q∈L∨q=y) (hL:∀ q∈L,jm W B q.2 q.1.m.st) (hy:jm W B y.2 y.1.m.st):gU W B v L':=
 gU.own h fun q h=>by
  rcases hq q h with h|rfl
  ·exact hL q h
  exact hy
variable {cap:Nat}
def iO.put {W1:World} {g k:Nat} (h:iO W B (.slice (some ⟨g,0,none⟩) n cap) ks) (hk:k<ks.length) {num:Int} (gN:(iG ks k).1=num) {v2:Value} {l2:List Int}
  (ho:W1.ownsRow B 24 1 v2 l2.length (l2.map Fc)) (hg:W.grownBy W1 (iG ks k).2.1.ownBlock) (hat:v2.ownBlock=(iG ks k).2.1.ownBlock∨v2.ownBlock=some W.heap.size) :
  iO (W1.setCell ⟨g,k*2+1,none⟩ v2) B (.slice (some ⟨g,0,none⟩) n cap) (ks.set k (num,v2,l2))/\gO W1 (W1.setCell ⟨g,k*2+1,none⟩ v2) B g 103:=by
 have hlen:n=ks.length:=by
  rcases h.row.2 with ⟨e,_⟩|⟨_,_,_,e,_⟩
  ·cases e
  injection e
 have hO:=fM.row (h.keys _ (uf hk)) hg (ag B);have oV:W1.ownsRow B 103 2 (.slice (some ⟨g,0,none⟩) n cap) ks.length (ks.flatMap iy):=yV h.row hO (by decide);have hgB:B<=g:=(oV.lt g rfl).1;have hty:=Lib.ownsRow_kind oV g rfl;have Dz:gO W1 (W1.setCell ⟨g,k*2+1,none⟩ v2) B g 103:=gO.pts hgB hty [(k*2+1,v2)];refine ⟨⟨?_,fun p hp=>?_,?_⟩,Dz⟩
 ·subst hlen;have h1:=(oV.stored (k*2) (.int .i64 num)).1;have hsame:(ks.flatMap iy).set (k*2) (.int .i64 num)=ks.flatMap iy:=by
   refine List.ext_getElem? fun j=>?_
   rw[dJ]
   by_cases e:k*2=j
   ·subst e;rw[ah rfl];have hl:(ks.flatMap iy).length=ks.length*2:=ye 2 iy _ (fun x _=>xV x);rw[ah (by omega)];have h2:=uh 2 iy (0,.slice none 0 0,[]) ks (fun x _=>xV x) k 0 hk (by decide);rw[bE] at h2;rw[h2];rw[<- gN]
    rfl
   rw[ai e]
  have h3:=(oV.stored (k*2+1) v2).1;have h4:=zA5 2 iy xV ks k hk (num,v2,l2);have h5:Mb (ks.flatMap iy) (k*2) (iy (num,v2,l2))=(ks.flatMap iy).set (k*2+1) v2:=by
   show ((ks.flatMap iy).set (k*2) (.int .i64 num)).set (k*2+1) v2=_
   rw[hsame]
  rw[<- h5,h4] at h3;rw[a_];exact h3
 ·rcases List.mem_iff_getElem.1 hp with ⟨j,hj,rfl⟩;rw[a_] at hj;rw[List.getElem_set]
  split
  ·exact yT ho Dz (by decide)
  rename_i hne;have hap:(ks[j]).2.1.ownBlock=none∨(ks[j]).2.1.ownBlock≠(iG ks k).2.1.ownBlock:=by
   rw[<- tQ hk];rcases Nat.lt_or_gt_of_ne hne with h1|h1
   ·rcases List.pairwise_iff_getElem.1 h.apart k j hk hj h1 with h2|h2
    ·by_cases e:(ks[j]).2.1.ownBlock=none
     ·exact .inl e
     exact .inr (by rw[h2];exact e)
    exact .inr h2.symm
   exact List.pairwise_iff_getElem.1 h.apart j k hj hk h1
  exact yT (World.ownsRow.kept (h.keys _ (bM hj)) hg hap) Dz (by decide)
 have hlt:∀ j (hj:j<ks.length) x,(ks[j]).2.1.ownBlock=some x->x<W.heap.size:=fun j hj x hx=>((h.keys _ (bM hj)).lt x hx).2
 rw[List.pairwise_iff_getElem];intro i j hi hj hij;rw[a_] at hi hj;have hap:=List.pairwise_iff_getElem.1 h.apart i j hi hj hij;rw[List.getElem_set,List.getElem_set]
 split
 ·rename_i e1;subst e1
  split
  ·omega
  show v2.ownBlock=none∨v2.ownBlock≠(ks[j]).2.1.ownBlock
  rcases hat with hat|hat
  ·rw[hat,<- tQ hk];exact hap
  rw[hat];exact .inr fun e=>by have:=hlt j hj _ e.symm;omega
 split
 ·rename_i e1 e2;subst e2
  show (ks[i]).2.1.ownBlock=none∨(ks[i]).2.1.ownBlock≠v2.ownBlock
  rcases hat with hat|hat
  ·rw[hat,<- tQ hk];exact hap
  rw[hat];exact .inr fun e=>by have:=hlt i hi _ e;omega
 exact hap
section
variable {W W1:World} {B b:Nat} {P:fP} {ga:Option Addr} {gn gc:Nat} {L:List GP} {kv sL:Value} {ks pd:List KP} {nv:Value} {es:List (Nd×Value)} {rv:Value}
def rY.put {g n cap k:Nat} (h:rY W B P ga gn gc L (.slice (some ⟨g,0,none⟩) n cap) ks nv es rv) (hk:k<ks.length) {num:Int} (gN:(iG ks k).1=num) {v2:Value} {l2:List Int}
  (ho:W1.ownsRow B 24 1 v2 l2.length (l2.map Fc)) (hg:W.grownBy W1 (iG ks k).2.1.ownBlock) (hat:v2.ownBlock=(iG ks k).2.1.ownBlock∨v2.ownBlock=some W.heap.size) :
  rY (W1.setCell ⟨g,k*2+1,none⟩ v2) B {P with eE:=(gV ks).set k (num,l2)} ga gn gc L (.slice (some ⟨g,0,none⟩) n cap) (ks.set k (num,v2,l2)) nv es rv/\fM W W1 B 24/\gO W1 (W1.setCell ⟨g,k*2+1,none⟩ v2) B g 103:=by
 obtain ⟨h1,h2⟩:=h.k.put hk gN ho hg hat;have hO:fM W W1 B 24:=fM.row (h.k.keys _ (uf hk)) hg (ag B);have Dz:fM W1 (W1.setCell ⟨g,k*2+1,none⟩ v2) B 103:=.inr ⟨g,h2⟩;refine ⟨⟨(h.g.fC hO (by decide) (by decide)).fC Dz (by decide) (by decide),h.gg,h1,zHk _ _ _ _ _,(h.n.fC hO (by decide) (by decide)).fC Dz (by decide) (by decide),h.nn,yV (yV h.r hO (by decide)) Dz (by decide)⟩,hO,h2⟩
end
def zKW {a:Option Addr} (h:iO W B (.slice a n cap) ks) {k:Nat} (hk:k<ks.length):∃ g,a=some ⟨g,0,none⟩/\n=ks.length/\B<=g/\g<W.heap.size/\W.cell? ⟨g,k*2+1,none⟩=some (iG ks k).2.1:=by
 have hr:od W (.slice a n cap) ks:=⟨fun x _=>xV x,zr h.row⟩
 have hn:=hr.len;obtain ⟨b,off,e,_,hc⟩:=hr.at (j:=k) (by omega);rcases h.row.2 with ⟨e2,_⟩|⟨g,c,cur,e2,hB,hg,_⟩
 ·cases e2;cases e
 injection e2 with e2 e3 e4;rw[e] at e2;injection e2 with e2;injection e2 with e2 e5;subst e2 e5;refine ⟨b,e,e3,hB,(Array.getElem?_eq_some_iff.1 hg).1,?_⟩;rw[aN] at hc;exact hc
def zLX {g k:Nat} (h:W.ownsRow B 103 2 (.slice (some ⟨g,0,none⟩) n cap) ks.length (ks.flatMap iy)) (hk:k<ks.length):W.cell? ⟨g,k*2+1,none⟩=some (iG ks k).2.1/\W.frozen? ⟨g,k*2+1,none⟩=false:=by
 have hn:n=ks.length:=by
  rcases h.2 with ⟨e,_⟩|⟨_,_,_,e,_⟩
  ·cases e
  injection e
 subst hn;have hf:=xu h (k*2+1);have hr:od W (.slice (some ⟨g,0,none⟩) ks.length cap) ks:=⟨fun x _=>xV x,zr h⟩
 obtain ⟨b,off,e,_,hc⟩:=hr.at hk;injection e with e;injection e with e1 e2;subst e1 e2;rw[aN] at hc;exact ⟨hc,hf⟩
def zNP (i l:Int) (r:Bool) (ga:Option Addr) (gn gc:Nat) (eH:Bool) (tk:Int) (kv nv rv:Value) (iC:Int) (u:Value):(BS i l r ga gn gc eH tk kv nv rv iC).setIfInBounds 6 u=BS i l r ga gn gc eH tk u nv rv iC:=by
 simp only[aJ,aK,aI]
def N0 (i l:Int) (r:Bool) (ga:Option Addr) (gn gc:Nat) (eH:Bool) (tk:Int) (kv nv rv:Value) (iC:Int) (u:Value):(BS i l r ga gn gc eH tk kv nv rv iC).setIfInBounds 8 u=BS i l r ga gn gc eH tk kv nv u iC:=by
 simp only[aJ,aK,aI]
def zMp (i l:Int) (r:Bool) (ga:Option Addr) (gn gc:Nat) (eH:Bool) (tk:Int) (kv nv rv:Value) (iC:Int) (z:Bool):(BS i l r ga gn gc eH tk kv nv rv iC).setIfInBounds 4 (.bool z)=BS i l r ga gn gc z tk kv nv rv iC:=by
 simp only[aJ,aK,aI]
def rY.res {W W1:World} {B:Nat} {P:fP} {ga:Option Addr} {gn gc:Nat} {L:List GP} {kv:Value} {ks:List KP} {nv:Value} {es:List (Nd×Value)} {rv E2:Value} (h:rY W B P ga gn gc L kv ks nv es rv) (e:Int)
  (hg:W.grownBy W1 rv.ownBlock) (ho:W1.ownsRow B 39 1 E2 (P.res.length+1) (P.res.map qQ++[.int .i64 e])):rY W1 B (more P e) ga gn gc L kv ks nv es E2/\fM W W1 B 39:=by
 have hO:fM W W1 B 39:=fM.row h.r hg (ag _);refine ⟨⟨h.g.fC hO (by decide) (by decide),h.gg,h.k.fC hO (by decide) (by decide),h.kk,h.n.fC hO (by decide) (by decide),h.nn,?_⟩,hO⟩
 show W1.ownsRow B _ 1 E2 (P.res++[e]).length ((P.res++[e]).map qQ)
 rw[ax,aU];exact ho
def iO.Yh (hi:i<=ks.length) (ha:ks.Pairwise fun p q=>p.2.1.ownBlock=none∨p.2.1.ownBlock≠q.2.1.ownBlock) (hk:∀ p∈ks,W.ownsRow B 24 1 p.2.1 p.2.2.length (p.2.2.map Fc)) (num key:Int) (JV:Value)
  (ho:W.ownsRow B 103 2 v (ks.length+1) ((ks.take i).flatMap iy++iy (num,JV,[key])++(ks.drop i).flatMap iy)) (hkey:W.ownsRow B 24 1 JV 1 [Fc key]) (hap:∀ p∈ks,p.2.1.ownBlock≠JV.ownBlock) :
  iO W B v (ks.take i++(num,JV,[key])::ks.drop i):=by
 have hmem:∀ p∈ks.take i++(num,JV,[key])::ks.drop i,p∈ks∨p=(num,JV,[key]):=fun p hp=>by
  rcases List.mem_append.1 hp with hp|hp
  ·exact .inl (cE hp)
  rcases List.mem_cons.1 hp with rfl|hp
  ·exact .inr rfl
  exact .inl (dA hp)
 refine ⟨?_,fun p hp=>?_,?_⟩
 ·have el:(ks.take i++(num,JV,[key])::ks.drop i).length=ks.length+1:=by
   rw[ax,aW,aB,aT];omega
  have ef:(ks.take i++(num,JV,[key])::ks.drop i).flatMap iy=(ks.take i).flatMap iy++iy (num,JV,[key])++(ks.drop i).flatMap iy:=by
   rw[cn,cC,aY]
  rw[el,ef];exact ho
 ·rcases hmem p hp with hp|rfl
  ·exact hk p hp
  exact hkey
 rw[List.pairwise_append,dM];refine ⟨ha.sublist (List.take_sublist _ _),⟨fun y hy=>.inr fun e=>hap y (dA hy) e.symm,ha.sublist (List.drop_sublist _ _)⟩,fun x hx y hy=>?_⟩;rcases List.mem_cons.1 hy with rfl|hy
 ·exact .inr (hap x (cE hx))
 have e:ks=ks.take i++ks.drop i:=(b7 i ks).symm;rw[e,List.pairwise_append] at ha;exact ha.2.2 x hx y hy
def jm.oo {w':World} {s s':Sl} {f f':Nat->List It} (h:fl w' B' s f s' f') (hr:jm w' B s f):jm w' B s' f':=by
 rcases h with ⟨rfl,h⟩|h
 ·exact fun i hi=>by rw[h i hi];exact hr i hi
 exact fun i hi=>iI.own (h i hi)
def jm.nil (w:World) (B:Nat):jm w B Sl.nil (fun _=>[]):=fun i hi=>iI.own (fA.nil w B i hi)
def gU.pick (h:gU w B v L) {g:Gn} {s:Sl} (hp:(g,s)∈L∨(g=gX/\s=Sl.nil)):jm w B s g.m.st:=by
 rcases hp with hp|⟨rfl,rfl⟩
 ·exact h.m _ hp
 exact jm.nil w B
def zNu (s:fk) (a:Option Addr) (n c:Nat) (L:List GP) (W:World) (hr:fB W (.slice a n c) L) (hg:ey L=s.ep) (hl:fF 1000 s.ep) :
  Calls Tryz.prog 77 #[zQ s.id s.lim s.ro a n c] W (TRk W L (wU s)):=by
 have h:=zNv s.id s.lim s.ro a n c L W hr (yx (hg▸hl) (by decide));obtain ⟨i,l,r,g⟩:=s;dsimp only at hg h |-;subst hg;exact h
def zF1 (s:fk) (a:Option Addr) (n c:Nat) (L:List GP) (W:World) (hr:fB W (.slice a n c) L) (hg:ey L=s.ep) (hs:fF 1000 s.ep) (g:Gn) (sl:Sl) (hm:fN W sl g.m.st) (hl:∀ j,j<8->(g.m.st j).length<=10000) :
  Calls Tryz.prog 44 #[zQ s.id s.lim s.ro a n c,ze g.num g.rev g.mode g.size sl g.m.live g.m.ew] W (JE W L (g,sl) (yS s g)):=by
 have h:=zNX s.id s.lim s.ro a n c L W hr (yx (hg▸hs) (by decide)) (g,sl) hm hl;obtain ⟨i,l,r,gs⟩:=s;dsimp only at hg h |-;subst hg;exact h
def ub (P:fP) (n:Nat):Bool:=!(decide (0<P.needs.length)&&decide (16384<P.bytes+(eY n:Int)))
structure rZ (ps:List (Nat×Value)) (W0:World) (b B:Nat) (T:TypeId) (n:Nat) (Cy:Option Nat) (xs ys:List Value) (iC:Value) (L:Nat->Bool) (f:Nat->Value) (W:World):Prop where
 ji:∀ q∈ps,L q.1=true->f q.1=q.2
 s0:L 8=false->W=W0
 s1:L 8=true->L 9=false->W=W0.alloc (.cells ys.toArray T)/\f 8=.slice (some ⟨W0.heap.size,0,none⟩) 1 1
 s2:L 9=true->∃ oa oc Wa,f 9=.slice oa (n+1) oc/\Wa.ownsRow B T 4 (.slice oa (n+1) oc) (n+1) (xs++ys)/\(W0.alloc (.cells ys.toArray T)).grownBy Wa Cy/\W=(if L 19=true then Wa.setCell ⟨b,7,none⟩ (.slice oa (n+1) oc) else Wa)
 d9:L 9=true->L 8=true/\L 6=true
 d8:L 8=true->L 7=true
 d19:L 19=true->L 9=true
 c9:W.cell? ⟨b,9,none⟩=some iC
section
variable {ps:List (Nat×Value)} {W0:World} {b B:Nat} {T:TypeId} {n:Nat} {Cy:Option Nat} {xs ys:List Value} {iC:Value} {L:Nat->Bool} {f:Nat->Value} {W:World}
def rZ.start (h:W0.cell? ⟨b,9,none⟩=some iC) (f:Nat->Value):rZ ps W0 b B T n Cy xs ys iC (fun _=>false) f W0:=
 ⟨(fun _ _ h=>by cases h),(fun _=>rfl),(fun h=>by cases h),(fun h=>by cases h),(fun h=>by cases h),(fun h=>by cases h),(fun h=>by cases h),h⟩
def rZ.Yi (h:rZ ps W0 b B T n Cy xs ys iC L f W) (h0:L 6=false∨L 8=false):L 9=false:=by
 cases e:L 9 with
 |false=>rfl
 |true=>have:=h.d9 e;rcases h0 with h0|h0<;>simp[h0] at this
def rZ.no8 (h:rZ ps W0 b B T n Cy xs ys iC L f W) (h0:L 7=false):L 8=false:=by
 cases e:L 8 with
 |false=>rfl
 |true=>have:=h.d8 e;simp[h0] at this
def rZ.QD (h:rZ ps W0 b B T n Cy xs ys iC L f W) (h0:L 9=false):L 19=false:=by
 cases e:L 19 with
 |false=>rfl
 |true=>have:=h.d19 e;simp[h0] at this
def rZ.early (h:rZ ps W0 b B T n Cy xs ys iC L f W) (h9:L 9=false):Below W0.heap.size W0 W:=by
 cases e:L 8 with
 |false=>rw[h.s0 e];exact aj _ _
 |true=>rw[(h.s1 e h9).1];exact (aj _ _).alloc (ag _) _
def rZ.pure (h:rZ ps W0 b B T n Cy xs ys iC L f W) {i:Nat} {v:Value} (h8:8≠i) (h9:9≠i) (TH:19≠i) (hp:∀ q∈ps,q.1=i->v=q.2):rZ ps W0 b B T n Cy xs ys iC (nY L i) (xM f i v) W:=by
 refine ⟨fun q hq hL=>?_,?_,?_,?_,?_,?_,?_,h.c9⟩
 ·by_cases e:q.1=i
  ·rw[e,vM];exact hp q hq e
  rw[yt e];rw[zO e] at hL;exact h.ji q hq hL
 ·rw[zO h8];exact h.s0
 ·rw[zO h8,zO h9,yt h8];exact h.s1
 ·rw[zO h9,zO TH,yt h9];exact h.s2
 ·rw[zO h9,zO h8];intro e;refine ⟨(h.d9 e).1,?_⟩
  by_cases e6:6=i
  ·subst e6;exact vN L 6
  rw[zO e6];exact (h.d9 e).2
 ·rw[zO h8];intro e
  by_cases e7:7=i
  ·subst e7;exact vN L 7
  rw[zO e7];exact h.d8 e
 rw[zO TH,zO h9];exact h.d19
def rZ.eight (h:rZ ps W0 b B T n Cy xs ys iC L f W) (h8:L 8=false) (h7:L 7=true) (hp:∀ q∈ps,q.1≠8):rZ ps W0 b B T n Cy xs ys iC (nY L 8) (xM f 8 (.slice (some ⟨W.heap.size,0,none⟩) 1 1)) (W.alloc (.cells ys.toArray T)):=by
 have n9:=h.Yi (.inr h8);have n19:=h.QD n9;have hW:=h.s0 h8;subst hW;refine ⟨fun q hq hL=>?_,(fun e=>by rw[vN] at e;cases e),(fun _ _=>⟨rfl,vM ..⟩),?_,?_,?_,?_,?_⟩
 ·rw[yt (hp q hq)];rw[zO (hp q hq)] at hL;exact h.ji q hq hL
 ·rw[zO (by decide),n9];intro e;cases e
 ·rw[zO (by decide),n9];intro e;cases e
 ·intro _;rw[zO (by decide)];exact h7
 ·rw[zO (by decide),n19];intro e;cases e
 rw[((aj W.heap.size W).alloc (ag _) (.cells ys.toArray T)).cell (bW W _ h.c9)];exact h.c9
def rZ.app (h:rZ ps W0 b B T n Cy xs ys iC L f W) (h8:L 8=true) (h6:L 6=true) (h9:L 9=false) (hp:∀ q∈ps,q.1≠9):W=W0.alloc (.cells ys.toArray T)/\f 8=.slice (some ⟨W0.heap.size,0,none⟩) 1 1 /\
  ∀ oa oc W',W'.ownsRow B T 4 (.slice oa (n+1) oc) (n+1) (xs++ys)->W.grownBy W' Cy->W'.cell? ⟨b,9,none⟩=some iC->rZ ps W0 b B T n Cy xs ys iC (nY L 9) (xM f 9 (.slice oa (n+1) oc)) W':=by
 obtain ⟨hW,e8⟩:=h.s1 h8 h9;have n19:=h.QD h9;refine ⟨hW,e8,fun oa oc W' ho hg hc=>⟨fun q hq hL=>?_,?_,?_,?_,?_,?_,?_,hc⟩⟩
 ·rw[yt (hp q hq)];rw[zO (hp q hq)] at hL;exact h.ji q hq hL
 ·rw[zO (by decide),h8];intro e;cases e
 ·rw[vN];intro _ e;cases e
 ·intro _;refine ⟨oa,oc,W',vM ..,ho,hW▸hg,?_⟩;rw[zO (by decide),n19,ai (by decide)]
 ·intro _;rw[zO (by decide),zO (by decide)];exact ⟨h8,h6⟩
 ·rw[zO (by decide),zO (by decide)];exact h.d8
 intro _;exact vN L 9
def rZ.store (h:rZ ps W0 b B T n Cy xs ys iC L f W) (h9:L 9=true) (TH:L 19=false) (hp:∀ q∈ps,q.1≠19):∃ oa oc,f 9=.slice oa (n+1) oc/\(W0.alloc (.cells ys.toArray T)).grownBy W Cy /\
  ∀ v,rZ ps W0 b B T n Cy xs ys iC (nY L 19) (xM f 19 v) (W.setCell ⟨b,7,none⟩ (.slice oa (n+1) oc)):=by
 obtain ⟨oa,oc,Wa,e9,ho,hg,hW⟩:=h.s2 h9;rw[TH,ai (by decide)] at hW;subst hW;refine ⟨oa,oc,e9,hg,fun v=>⟨fun q hq hL=>?_,?_,?_,?_,?_,?_,?_,?_⟩⟩
 ·rw[yt (hp q hq)];rw[zO (hp q hq)] at hL;exact h.ji q hq hL
 ·rw[zO (by decide),(h.d9 h9).1];intro e;cases e
 ·rw[zO (by decide),zO (by decide),h9];intro _ e;cases e
 ·intro _;refine ⟨oa,oc,W,?_,ho,hg,?_⟩
  ·rw[yt (by decide)];exact e9
  rw[vN,ah rfl]
 ·rw[zO (by decide),zO (by decide),zO (by decide)];exact h.d9
 ·rw[zO (by decide),zO (by decide)];exact h.d8
 ·intro _;rw[zO (by decide)];exact h9
 exact (cA (h:=fun e=>by injection e with _ e _;exact absurd e (by decide)) ..).trans h.c9
end
def zDC {tk:Int} (hlo:B<=b) (hP:BU w b P.t.id P.t.lim P.t.ro ga gn gc P.eH tk kv nv rv P.bytes) (hR:rY w B P ga gn gc L kv ks nv es rv) (hl:fF 900 P.t.ep) (hB:B<=w.heap.size) (x:Nd) (da:Option Addr) (dn dc:Nat) (hx:gD w B (.slice da dn dc) x.data) (lu:x.data.length=dn) (iz:dn<=100000) (hel:es.length<=1000) (hby:0<=P.bytes/\P.bytes<=1000000000) :
  Calls Tryz.prog 154 #[.pointer (some ⟨b,0,none⟩),.agg #[.int .u64 (x.key:Int),.int .u32 (x.ck:Int),.bool x.del,.slice da dn dc]] w fun e w'=>e=.returned (.bool (ub P dn))/\mX w' B b tk (if ub P dn=true then xR P x else P)/\fD B w w':=by
 have fS:b<w.heap.size:=hP.lt;have KT:∀ g,nv.ownBlock=some g->g<w.heap.size:=fun g h=>(hR.n.row.lt g h).2
 have EP:eY dn<=4127:=wI dn;have QE:es.length=P.needs.length:=by rw[<- hR.nn,aH]
 have FC:=zh (fun W (hb:Below w.heap.size w W)=>zNu P.t ga gn gc L W (hR.g.rd.bb hb) hR.gg (hl.mono (by decide)));have Jp:=Tj hl;have lL:=zh (fun W sT v (hm:fN W sT (wU P.t).2.m.st) (hr:mJ W v [(x,.slice da dn dc)])=>WA (wU P.t).2 sT v [(x,.slice da dn dc)] 900 W hm Jp hr (by simp) (fun p hp=>by obtain rfl:=List.mem_singleton.1 hp;show x.data.length<=_;omega));have nR:=zh (fun W sA (hb:Below w.heap.size w W) (hm:fN W sA (yZ (wU P.t).2 [x]).2.m.st)=>zF1 P.t ga gn gc L W (hR.g.rd.bb hb) hR.gg (hl.mono (by decide)) (yZ (wU P.t).2 [x]).2 sA hm (fun j hj=>ak (uF Jp j hj) (by simp)));have rI:Hid (xR P x={P with t:=(yS P.t (yZ (wU P.t).2 [x]).2).1,needs:=P.needs++[x],bytes:=P.bytes+(eY x.data.length:Int)}):=zh (rfl);generalize xR P x=P1 at *;simp only[List.map_cons,List.map_nil] at lL
 generalize yS P.t (yZ (wU P.t).2 [x]).2=C at *;obtain ⟨C,ce⟩:=C;generalize Xt:wU P.t=TT at *;clear Xt Jp;obtain ⟨te,T⟩:=TT;generalize Xu:yZ T [x]=AA at *;clear Xu;obtain ⟨ae,A⟩:=AA;obtain ⟨tn,tr,tm,tz,⟨tf,tL,tG⟩⟩:=T;obtain ⟨an,ar,am,az,⟨af,aL,aG⟩⟩:=A;dsimp only at FC lL nR rI;have HD:=zh hx;have HP:=zh hP;have HR:=zh hR;have jb:=zh (fun W=>Nt dn W);have Xv:=zh (show (eY x.data.length:Int)=(eY dn:Int) by rw[lu]);obtain ⟨T,hT⟩:∃ T:Bool,T=ub P dn:=⟨_,rfl⟩
 have hTe:(!T)=(decide (0<es.length)&&decide (16384<P.bytes+(eY dn:Int))):=by rw[hT,QE];unfold ub;rw[Bool.not_not]
 rw[<- hT];have QF:=zh hTe;clear hP hR hx hl hT hTe QE;have Kk:Hid (vI (x,.slice da dn dc)=[.int .u64 (x.key:Int),.int .u32 (x.ck:Int),.bool x.del,.slice da dn dc]):=zh (rfl);generalize (x.key:Int)=xk at *;generalize (x.ck:Int)=xq at *;generalize x.del=xd at *
 go_enter Tryz.func154,Tryz.ntmps154
 go_upto_region 1 with fail;change Code.wp _ _ _ _ (.alloc _ (.cells _ 56));obtain ⟨w1,hV,eG,HX⟩:=dY w #[.int .u64 xk,.int .u32 xq,.bool xd,.slice da dn dc] 56;rw[hV];clear hV;have HB:=zh eG;replace HD:=zh (HD.o.bb eG);replace HP:=zh (HP.o.bb eG);replace HR:=zh (HR.o.bb eG);have hb3:b<w.heap.size:=fS;clear eG;generalize oU:w.heap.size=b3 at *;have Qg:=zh oU;have hz1:w.heap.size<=b3:=by omega
 have hz2:b3<=w.heap.size:=by omega
 clear oU;have n3:=HX.o.cell (i:=3) rfl;go_wp2_with fail;refine (jb.o w1).mono ?_;rintro e w9 ⟨rfl,N1⟩;subst N1;have p7:=HP.o.cell (i:=7) rfl;have p9:=HP.o.cell (i:=9) rfl;obtain ⟨IW,IX,JO,an4,an5,an6⟩:=zG HR.o.n.row;subst JO;have nE:=hby;go_upto_region 2 with fail
 go_cut [29] (fun v wx=>v=.bool (!T)/\wx=w1)
 case first =>
  by_cases c1:0<es.length
  ·have i1:(0:Int)<(es.length:Int):=by omega
   have Mv:(!T)=decide (16384<P.bytes+(eY dn:Int)):=by rw[QF.o,aD c1,bU]
   clear QF;go_wp2_with fail;go_meet
   case rel=>exact ⟨by rw[Mv],rfl⟩
  have i1:¬ (0:Int)<(es.length:Int):=by omega
  have Mv:(!T)=false:=by rw[QF.o,aC c1,dC]
  clear QF;go_wp2_with fail;go_meet
  case rel=>exact ⟨by rw[Mv],rfl⟩
 obtain ⟨rfl,hwc⟩:=hcut;generalize wc=Yj at *;replace hwc:=hwc.symm;subst hwc;clear n3 p7 p9 QF
 cases T
 ·have eN:Hid (fD B w w1):=zh (fD.of (HB.o.mono hz1) (ak hB hz2));have HMz:Hid (mX w1 B b tk P):=zh (⟨ga,gn,gc,L,kv,ks,_,es,rv,hlo,HP.o,HR.o⟩);go_wp2_with fail;go_ret;exact ⟨rfl,HMz.o,eN.o⟩
 skip
 have p0:=HP.o.cell (i:=0) rfl;have p1:=HP.o.cell (i:=1) rfl;have p2:=HP.o.cell (i:=2) rfl;have p3:=HP.o.cell (i:=3) rfl;go_wp2_with fail;refine (FC.o w1 HB.o).mono ?_;rintro e w2 ⟨⟨sT,rfl,ho⟩,hb⟩;dsimp only;clear p0 p1 p2 p3 FC;have eX:=zh (hb.mono (ag _));replace HX:=zh (HX.o.bb hb);replace HD:=zh (HD.o.bb hb);replace HP:=zh (HP.o.bb hb);replace HR:=zh (HR.o.bb hb);have HT:Hid (jm w2 B sT tf):=zh (HR.o.g.pick ho);clear ho;replace HB:=zh (HB.o.trans (hb.mono (by have:=HB.o.size;omega)));clear hb eX;have sX:=HR;have CV:=HP;have Ge:=HD;have mo:=HX;have C0:=HT;have eX:=HB;go_upto_region 5 with fail;change Code.wp _ _ _ _ (w2.alloc (.cells (zU tn tr tm tz sT tL tG) 113));obtain ⟨w3,hV,eG,HG⟩:=dY w2 (zU tn tr tm tz sT tL tG) 113;rw[hV];clear hV;have Aj:b3<=w2.heap.size:=ak hz2 HB.o.size
 have hX3:b3<w2.heap.size:=HX.o.lt;replace HX:=zh (HX.o.bb eG);replace HD:=zh (HD.o.bb eG);replace HP:=zh (HP.o.bb eG);replace HR:=zh (HR.o.bb eG);replace HT:=zh (show jm _ B sT tf from HT.o.bb eG);replace HB:=zh (HB.o.trans (eG.mono Aj));have jZ:=zh eG;clear eG;generalize GF:w2.heap.size=b4 at *;have Qh:=zh GF;have hz3:w2.heap.size<=b4:=by omega
 have S1:b4<=w2.heap.size:=by omega
 clear GF;obtain ⟨g0,g1,g2,g3,g4,g5,g6,g7,g8,g9,g10,g11,g12,g13⟩:=HG.o.gen.q;have n0:=HX.o.cell (i:=0) rfl;have n1:=HX.o.cell (i:=1) rfl;have n2:=HX.o.cell (i:=2) rfl;have n3:=HX.o.cell (i:=3) rfl;go_wp2_with fail;have eG:=(aj w3.heap.size w3).alloc (ag _) (.cells #[.int .u64 xk,.int .u32 xq,.bool xd,.slice da dn dc] 56);have HN:Hid (mJ (w3.alloc (.cells #[.int .u64 xk,.int .u32 xq,.bool xd,.slice da dn dc] 56)) (.slice (some ⟨w3.heap.size,0,none⟩) 1 1) [(x,.slice da dn dc)]):=zh (⟨by rw[show xI [(x,.slice da dn dc)]=[.int .u64 xk,.int .u32 xq,.bool xd,.slice da dn dc] by unfold xI;rw[cC,List.flatMap_nil,cz,Kk.o]];exact Rd.new w3 4 [.int .u64 xk,.int .u32 xq,.bool xd,.slice da dn dc] 56 1 rfl (by decide),fun p hp=>by obtain rfl:=List.mem_singleton.1 hp;exact il.bb HD.o.1 eG⟩)
 refine (lL.o _ sT _ (HT.o.bb eG).rd HN.o).mono ?_;rintro e w4 ⟨⟨sA,rfl,ho⟩,hb⟩;dsimp only;replace hb:=zA eG hb;clear g0 g1 g2 g3 g4 g5 g6 g7 g8 g9 g10 g11 g12 g13;clear n0 n1 n2 n3 HN lL eG;have HA:Hid (jm w4 B sA af):=zh (jm.oo ho (HT.o.bb hb));have Dy:b3<=w3.heap.size:=ak hz2 HB.o.size;have hb4:b4<w3.heap.size:=HG.o.lt;replace HG:=zh (HG.o.bb hb);replace HX:=zh (HX.o.bb hb);replace HD:=zh (HD.o.bb hb);replace HP:=zh (HP.o.bb hb);replace HR:=zh (HR.o.bb hb);replace HB:=zh (HB.o.trans (hb.mono Dy));replace jZ:=zh (jZ.o.trans (hb.mono (show b4<=w3.heap.size by omega)));clear ho hb HT HG;go_upto_region 6 with fail;change Code.wp _ _ _ _ (w4.alloc (.cells (zU an ar am az sA aL aG) 113));obtain ⟨v5,hV,eG,Qi⟩:=dY w4 (zU an ar am az sA aL aG) 113;rw[hV];clear hV
 have Mg:Hid (jm _ B sA af):=zh (HA.o.bb eG);have gW:=zh (HB.o.trans (eG.mono (by have:=HB.o.size;omega)));replace HX:=zh (HX.o.bb eG);replace HD:=zh (HD.o.bb eG);replace HP:=zh (HP.o.bb eG);replace HR:=zh (HR.o.bb eG);clear eG HA HB jZ CV sX Ge mo C0 eX;generalize w4.heap.size=b8 at *;have Fz:B<=v5.heap.size:=by have:=gW.o.size;omega
 go_cut [46] (fun _ wx=>∃ jo jq gc' L',Hid (BU wx b C.id C.lim C.ro jo jq gc' P.eH tk kv (.slice IW es.length IX) rv P.bytes)/\Hid (rY wx B {P with t:=C} jo jq gc' L' kv ks (.slice IW es.length IX) es rv)/\Hid (gD wx B (.slice da dn dc) x.data)/\Hid (eu wx b3 #[.int .u64 xk,.int .u32 xq,.bool xd,.slice da dn dc] 56)/\Hid (fD B w wx))
 case first =>
  refine yQ [eT (.pointer (some ⟨b,0,none⟩)),eT (.pointer (some ⟨b,0,none⟩)),eT (.pointer (some ⟨b,0,none⟩)),eT (.pointer (some ⟨b,0,none⟩)),eT (zQ P.t.id P.t.lim P.t.ro ga gn gc),eT (ze an ar am az sA aL aG),TF B (C,ce),TF B (C,ce),zMs B C,eT (.int .i64 ce),eT (.pointer (some ⟨b,0,none⟩)),eT (.pointer (some ⟨b,0,none⟩))] [] 78 9 (by kernel_rfl) (by kernel_rfl) rfl rfl (by decide) (by rfl) (by kernel_rfl) (fun f=>by simp[fU,zW,Act.put];exact rfl) ?_ ?_ ?_
  ·refine ⟨?_,?_,?_,?_,?_,?_,?_,?_,?_,?_,?_,?_,trivial⟩
   ·intro f w1 hb hd;clear hd;dsimp only;go_wp2_with fail;exact pS rfl (by simp)
   ·intro f w1 hb hd;clear hd;dsimp only;go_wp2_with fail;exact pS rfl (by simp)
   ·intro f w1 hb hd;have d1:f 1=_:=hd 1 (by kernel_rfl);clear hd;dsimp only;rw[d1];go_wp2_with fail;exact pS rfl (by simp)
   ·intro f w1 hb hd;have d2:f 2=_:=hd 2 (by kernel_rfl);clear hd;dsimp only;rw[d2];go_wp2_with fail;exact pS rfl (by simp)
   ·intro f w1 hb hd;have d3:f 3=_:=hd 3 (by kernel_rfl);clear hd;dsimp only;rw[d3];have hx:=HP.o.bb hb;have q0:=hx.cell (i:=0) rfl;have q1:=hx.cell (i:=1) rfl;have q2:=hx.cell (i:=2) rfl;have q3:=hx.cell (i:=3) rfl;clear hx;go_wp2_with fail;exact pS rfl (by simp)
   ·intro f w1 hb hd;clear hd;dsimp only;have hx:=(Qi.o.bb hb).gen;obtain ⟨q0,q1,q2,q3,q4,q5,q6,q7,q8,q9,w_,y_,z_,Aa⟩:=hx.q;clear hx;go_wp2_with fail;exact pS rfl (by simp)
   ·intro f w1 hb hd;have d4:f 4=_:=hd 4 (by kernel_rfl);have d5:f 5=_:=hd 5 (by kernel_rfl);clear hd;dsimp only;rw[d4];rw[d5];go_wp2_with fail;refine (nR.o w1 sA (gW.o.trans (hb.mono (ak hz2 gW.o.size))) (Mg.o.bb hb).rd).mono ?_;rintro e w9 ⟨⟨qa,qn,qc,qL,rfl,hown,QG,hgn⟩,gy⟩;have ru:Hid (gU w9 B (.slice qa qn qc) qL):=zh (gU.Ma hown QG (fun q hq=>(((HR.o.bb hb).g.bb gy).m q hq)) ((Mg.o.bb hb).bb gy));have iZ:=zh hgn;clear hown hgn QG;go_wp2_with fail;exact pRg gy ⟨qa,qn,qc,qL,rfl,ru.o,iZ.o⟩ (by simp)
   ·intro f w1 hb hd;obtain ⟨a6,n6,c6,L6,d6,r6,g6⟩:=hd 6 (by kernel_rfl);clear hd;dsimp only;rw[d6];have ru:=zh r6;have iZ:=zh g6;clear r6 g6;go_wp2_with fail;exact pRg (aj _ _) ⟨a6,n6,c6,L6,rfl,ru.o,iZ.o⟩ (by simp)
   ·intro f w1 hb hd;obtain ⟨a7,n7,c7,L7,d7,r7,g7⟩:=hd 7 (by kernel_rfl);clear hd;dsimp only;rw[d7];have ru:=zh r7;have iZ:=zh g7;clear r7 g7;go_wp2_with fail;exact pRg (aj _ _) ⟨a7,n7,c7,L7,rfl,ru.o,iZ.o⟩ (by simp)
   ·intro f w1 hb hd;obtain ⟨a7,n7,c7,L7,d7,r7,g7⟩:=hd 7 (by kernel_rfl);clear hd;dsimp only;rw[d7];clear r7 g7;go_wp2_with fail;exact pS rfl (by simp)
   ·intro f w1 hb hd;have d0:f 0=_:=hd 0 (by kernel_rfl);clear hd;dsimp only;rw[d0];go_wp2_with fail;exact pS rfl (by simp)
   intro f w1 hb hd;have d10:f 10=_:=hd 10 (by kernel_rfl);clear hd;dsimp only;rw[d10];go_wp2_with fail;exact pS rfl (by simp)
  ·intro f w8 hb hd iX;clear iX;obtain ⟨a8,n8,c8,L8,d8,r8,g8⟩:=hd 8 (by simp);have d11:f 11=_:=hd 11 (show 11<12 by decide)
   try dsimp only
   rw[d8,d11];clear hd d8 d11;have gR:=HP.o.bb hb;have HO:=gO.pts (T:=197) hlo ⟨_,_,gR⟩ (zI C.id C.lim C.ro a8 n8 c8);have jB:Hid (BU _ b C.id C.lim C.ro a8 n8 c8 P.eH tk kv (.slice IW es.length IX) rv P.bytes):=zh ((by have h:=eu.sets (zI C.id C.lim C.ro a8 n8 c8) gR;rw[qW] at h;exact h));have iw:=zh (((HR.o.bb hb).slot C r8 g8).ik HO);have HDn:Hid (gD _ B _ _):=zh (iI.ik (HD.o.bb hb) HO (by decide));have GG:=zh ((HX.o.bb hb).eL (show b3≠b by omega) (zI C.id C.lim C.ro a8 n8 c8));have fH:=zh ((fD.of ((gW.o.trans (hb.mono (ak hz2 gW.o.size))).mono hz1) (ak hB hz2)).pts hlo (zI C.id C.lim C.ro a8 n8 c8) ⟨_,_,gR⟩ (by decide));have q0:=gR.cell (i:=0) rfl;have q1:=gR.cell (i:=1) rfl;have q2:=gR.cell (i:=2) rfl;have q3:=gR.cell (i:=3) rfl;have qf:=gR.frozen;clear r8 g8 hb gR HO
   change wpList _ _ _ (_::[]) _ _;go_wp2_with fail;go_meet
   case rel=>exact ⟨a8,n8,c8,L8,jB,iw,HDn,GG,fH⟩
  intro f w8 hb hd iX;clear iX;obtain ⟨a8,n8,c8,L8,d8,r8,g8⟩:=hd 8 (by simp) (by decide);have d11:f 11=_:=hd 11 (show 11<12 by decide) (by decide);obtain ⟨a7,n7,c7,L7,d7,r7,g7⟩:=hd 7 (by simp) (by decide);clear r7 g7
  try dsimp only
  rw[d7,d8,d11];clear hd d7 d8 d11;have gR:=HP.o.bb hb;have HO:=gO.pts (T:=197) hlo ⟨_,_,gR⟩ (zI C.id C.lim C.ro a8 n8 c8);have jB:Hid (BU _ b C.id C.lim C.ro a8 n8 c8 P.eH tk kv (.slice IW es.length IX) rv P.bytes):=zh ((by have h:=eu.sets (zI C.id C.lim C.ro a8 n8 c8) gR;rw[qW] at h;exact h));have iw:=zh (((HR.o.bb hb).slot C r8 g8).ik HO);have HDn:Hid (gD _ B _ _):=zh (iI.ik (HD.o.bb hb) HO (by decide));have GG:=zh ((HX.o.bb hb).eL (show b3≠b by omega) (zI C.id C.lim C.ro a8 n8 c8));have fH:=zh ((fD.of ((gW.o.trans (hb.mono (ak hz2 gW.o.size))).mono hz1) (ak hB hz2)).pts hlo (zI C.id C.lim C.ro a8 n8 c8) ⟨_,_,gR⟩ (by decide));have q0:=gR.cell (i:=0) rfl;have q1:=gR.cell (i:=1) rfl;have q2:=gR.cell (i:=2) rfl;have q3:=gR.cell (i:=3) rfl;have qf:=gR.frozen;clear r8 g8 hb gR HO
  change wpList _ _ _ (_::_::[]) _ _;go_wp2_with fail;go_meet
  case rel=>exact ⟨a8,n8,c8,L8,jB,iw,HDn,GG,fH⟩
 obtain ⟨jo,jq,gc',L',HP,HR,HD,HX,HB⟩:=hcut;generalize wc=v6 at *;have Gs:B<=v6.heap.size:=ak (ak hB hz2) HB.o.size;have AZ:=zV (aj v6.heap.size v6);have Bv:v6.drew.heap.size=v6.heap.size:=rfl;have oh:=zh (HP.o.bb AZ);have lY:=zh (HX.o.bb AZ);have jC:=zh (HR.o.bb AZ);have JW:Hid (gD _ B _ _):=zh (iI.bb HD.o AZ);have eP:=zh (HB.o.step AZ Gs);have lX:B<=v6.drew.heap.size:=ak Gs AZ.size;clear AZ Bv HP HX HR HD HB;go_upto_region 7 with fail;obtain ⟨v60,QH⟩:∃ v60,v6.drew=v60:=⟨_,rfl⟩
 rw[QH] at oh lY jC JW eP lX;have Yk:=oh.o.cell (i:=9) rfl;have eG:=(aj v60.heap.size v60).alloc (ag _) (.cells #[.int .u64 xk,.int .u32 xq,.bool xd,.slice da dn dc] 56);have pQ:=zh (oh.o.bb eG);have lS:=zh (jC.o.bb eG);have Tm:Hid (gD _ B _ _):=zh (iI.bb JW.o eG);have h_:=zh (eP.o.step eG lX);have j_:=zh lS.o.n.row;have rJ:B<=(v60.alloc (.cells #[.int .u64 xk,.int .u32 xq,.bool xd,.slice da dn dc] 56)).heap.size:=ak lX eG.size;have Cw:=zh (fun W (hg:(v60.alloc (.cells #[.int .u64 xk,.int .u32 xq,.bool xd,.slice da dn dc] 56)).grownBy W (Value.slice IW es.length IX).ownBlock)=>pQ.o.fC (fM.row j_.o hg (ag _)) (by decide));clear eG jC JW eP
 refine wi 20 (fun L f' W=>rZ [(0,.pointer (some ⟨b,0,none⟩)),(1,.pointer (some ⟨b,0,none⟩)),(2,.pointer (some ⟨b,0,none⟩)),(3,.pointer (some ⟨b,0,none⟩)),(4,.pointer (some ⟨b,4,none⟩)),(5,.pointer (some ⟨b,7,none⟩)),(6,.slice IW es.length IX),(7,.agg #[.int .u64 xk,.int .u32 xq,.bool xd,.slice da dn dc]),(10,.pointer (some ⟨b,0,none⟩)),(11,.pointer (some ⟨b,0,none⟩)),(12,.pointer (some ⟨b,9,none⟩)),(13,.int .i64 P.bytes),(14,.int .i64 (eY dn:Int)),(15,.int .i64 (P.bytes+(eY dn:Int))),(16,.pointer (some ⟨b,0,none⟩)),(17,.pointer (some ⟨b,4,none⟩)),(18,.pointer (some ⟨b,7,none⟩))] v60 b B 56 es.length (Value.slice IW es.length IX).ownBlock (xI es) [.int .u64 xk,.int .u32 xq,.bool xd,.slice da dn dc] (.int .i64 P.bytes) L f' W) 78 (by kernel_rfl) (by kernel_rfl) (by rfl) (by kernel_rfl) (fun f=>by simp[fU,zW,Act.put];exact rfl) (fun f=>by rw[QH];exact rZ.start Yk f) ?_ ?_
 ·refine ⟨?_,?_,?_,?_,?_,?_,?_,?_,?_,?_,?_,?_,?_,?_,?_,?_,?_,?_,?_,?_,trivial⟩
  ·intro L f' w7 h0 hd hI;have gl:=zh hI;clear hI hd;dsimp only;go_wp2_with fail;exact pIv (gl.o.pure (v:=.pointer (some ⟨b,0,none⟩)) (by decide) (by decide) (by decide) (by simp))
  ·intro L f' w7 h0 hd hI;have gl:=zh hI;clear hI hd;dsimp only;go_wp2_with fail;exact pIv (gl.o.pure (v:=.pointer (some ⟨b,0,none⟩)) (by decide) (by decide) (by decide) (by simp))
  ·intro L f' w7 h0 hd hI;have gl:=zh hI;clear hI hd;dsimp only;go_wp2_with fail;exact pIv (gl.o.pure (v:=.pointer (some ⟨b,0,none⟩)) (by decide) (by decide) (by decide) (by simp))
  ·intro L f' w7 h0 hd hI;have gl:=zh hI;have d2:f' 2=.pointer (some ⟨b,0,none⟩):=hI.ji (2,.pointer (some ⟨b,0,none⟩)) (by simp) (hd 2 (by kernel_rfl));clear hI hd;dsimp only;rw[d2];go_wp2_with fail;exact pIv (gl.o.pure (v:=.pointer (some ⟨b,0,none⟩)) (by decide) (by decide) (by decide) (by simp))
  ·intro L f' w7 h0 hd hI;have gl:=zh hI;have d3:f' 3=.pointer (some ⟨b,0,none⟩):=hI.ji (3,.pointer (some ⟨b,0,none⟩)) (by simp) (hd 3 (by kernel_rfl));clear hI hd;dsimp only;rw[d3];go_wp2_with fail;exact pIv (gl.o.pure (v:=.pointer (some ⟨b,4,none⟩)) (by decide) (by decide) (by decide) (by simp))
  ·intro L f' w7 h0 hd hI;have gl:=zh hI;have d4:f' 4=.pointer (some ⟨b,4,none⟩):=hI.ji (4,.pointer (some ⟨b,4,none⟩)) (by simp) (hd 4 (by kernel_rfl));clear hI hd;dsimp only;rw[d4];go_wp2_with fail;exact pIv (gl.o.pure (v:=.pointer (some ⟨b,7,none⟩)) (by decide) (by decide) (by decide) (by simp))
  ·intro L f' w7 h0 hd hI;have gl:=zh hI;have d5:f' 5=.pointer (some ⟨b,7,none⟩):=hI.ji (5,.pointer (some ⟨b,7,none⟩)) (by simp) (hd 5 (by kernel_rfl));have q7:=(oh.o.bb (hI.early (hI.Yi (.inl h0)))).cell (i:=7) rfl;clear hI hd;dsimp only;rw[d5];go_wp2_with fail;exact pIv (gl.o.pure (v:=.slice IW es.length IX) (by decide) (by decide) (by decide) (by simp))
  ·intro L f' w7 h0 hd hI;have gl:=zh hI;have hx:=lY.o.bb (hI.early (hI.Yi (.inr (hI.no8 h0))));have n0:=hx.cell (i:=0) rfl;have n1:=hx.cell (i:=1) rfl;have n2:=hx.cell (i:=2) rfl;have n3:=hx.cell (i:=3) rfl;clear hx;clear hI hd;dsimp only;go_wp2_with fail;exact pIv (gl.o.pure (v:=.agg #[.int .u64 xk,.int .u32 xq,.bool xd,.slice da dn dc]) (by decide) (by decide) (by decide) (by simp))
  ·intro L f' w7 h0 hd hI;have gl:=zh (hI.eight h0 (hd 7 (by kernel_rfl)) (by simp));have d7:f' 7=.agg #[.int .u64 xk,.int .u32 xq,.bool xd,.slice da dn dc]:=hI.ji (7,.agg #[.int .u64 xk,.int .u32 xq,.bool xd,.slice da dn dc]) (by simp) (hd 7 (by kernel_rfl));clear hI hd;dsimp only;rw[d7];go_wp2_with fail;exact pIv (gl.o)
  ·intro L f' w7 h0 hd hI;have d6:f' 6=.slice IW es.length IX:=hI.ji (6,.slice IW es.length IX) (by simp) (hd 6 (by kernel_rfl));obtain ⟨hW,e8,hk⟩:=hI.app (hd 8 (by kernel_rfl)) (hd 6 (by kernel_rfl)) h0 (by simp);subst hW;have HK:=zh hk;clear hI hd hk;dsimp only;rw[d6,e8];refine zP (n:=es.length) (m:=1) rfl (.tmp 63) (.tmp 65) 23 rfl SY B rfl j_.o rfl (Rd.new v60 4 [.int .u64 xk,.int .u32 xq,.bool xd,.slice da dn dc] 56 1 rfl (by decide)) (fun u hu=>by simp only[bp,bt,bu] at hu;rcases hu with h|h|h|h<;>rw[h]<;>rfl) (by unfold maxLen;omega) (by omega) rJ ?_;intro v' w8 hown' Bg _;obtain ⟨jD,jE,hv2,_,_,_⟩:=zG hown';subst hv2;have HQ:=zh (HK.o _ _ _ hown' Bg ((Cw.o _ Bg).cell (i:=9) rfl));exact pIv (HQ.o)
  ·intro L f' w7 h0 hd hI;have gl:=zh hI;clear hI hd;dsimp only;go_wp2_with fail;exact pIv (gl.o.pure (v:=.pointer (some ⟨b,0,none⟩)) (by decide) (by decide) (by decide) (by simp))
  ·intro L f' w7 h0 hd hI;have gl:=zh hI;have d10:f' 10=.pointer (some ⟨b,0,none⟩):=hI.ji (10,.pointer (some ⟨b,0,none⟩)) (by simp) (hd 10 (by kernel_rfl));clear hI hd;dsimp only;rw[d10];go_wp2_with fail;exact pIv (gl.o.pure (v:=.pointer (some ⟨b,0,none⟩)) (by decide) (by decide) (by decide) (by simp))
  ·intro L f' w7 h0 hd hI;have gl:=zh hI;have d11:f' 11=.pointer (some ⟨b,0,none⟩):=hI.ji (11,.pointer (some ⟨b,0,none⟩)) (by simp) (hd 11 (by kernel_rfl));clear hI hd;dsimp only;rw[d11];go_wp2_with fail;exact pIv (gl.o.pure (v:=.pointer (some ⟨b,9,none⟩)) (by decide) (by decide) (by decide) (by simp))
  ·intro L f' w7 h0 hd hI;have gl:=zh hI;have d12:f' 12=.pointer (some ⟨b,9,none⟩):=hI.ji (12,.pointer (some ⟨b,9,none⟩)) (by simp) (hd 12 (by kernel_rfl));have c9:=hI.c9;clear hI hd;dsimp only;rw[d12];go_wp2_with fail;exact pIv (gl.o.pure (v:=.int .i64 P.bytes) (by decide) (by decide) (by decide) (by simp))
  ·intro L f' w7 h0 hd hI;have gl:=zh hI;clear hI hd;dsimp only;go_wp2_with fail;exact pIv (gl.o.pure (v:=.int .i64 (eY dn:Int)) (by decide) (by decide) (by decide) (by simp))
  ·intro L f' w7 h0 hd hI;have gl:=zh hI;have d13:f' 13=.int .i64 P.bytes:=hI.ji (13,.int .i64 P.bytes) (by simp) (hd 13 (by kernel_rfl));have d14:f' 14=.int .i64 (eY dn:Int):=hI.ji (14,.int .i64 (eY dn:Int)) (by simp) (hd 14 (by kernel_rfl));have j0:=hby.1;have j1:=hby.2;have j2:=EP;clear hI hd;dsimp only;rw[d13];rw[d14];go_wp2_with fail;exact pIv (gl.o.pure (v:=.int .i64 (P.bytes+(eY dn:Int))) (by decide) (by decide) (by decide) (by simp))
  ·intro L f' w7 h0 hd hI;have gl:=zh hI;have d0:f' 0=.pointer (some ⟨b,0,none⟩):=hI.ji (0,.pointer (some ⟨b,0,none⟩)) (by simp) (hd 0 (by kernel_rfl));clear hI hd;dsimp only;rw[d0];go_wp2_with fail;exact pIv (gl.o.pure (v:=.pointer (some ⟨b,0,none⟩)) (by decide) (by decide) (by decide) (by simp))
  ·intro L f' w7 h0 hd hI;have gl:=zh hI;have d16:f' 16=.pointer (some ⟨b,0,none⟩):=hI.ji (16,.pointer (some ⟨b,0,none⟩)) (by simp) (hd 16 (by kernel_rfl));clear hI hd;dsimp only;rw[d16];go_wp2_with fail;exact pIv (gl.o.pure (v:=.pointer (some ⟨b,4,none⟩)) (by decide) (by decide) (by decide) (by simp))
  ·intro L f' w7 h0 hd hI;have gl:=zh hI;have d17:f' 17=.pointer (some ⟨b,4,none⟩):=hI.ji (17,.pointer (some ⟨b,4,none⟩)) (by simp) (hd 17 (by kernel_rfl));clear hI hd;dsimp only;rw[d17];go_wp2_with fail;exact pIv (gl.o.pure (v:=.pointer (some ⟨b,7,none⟩)) (by decide) (by decide) (by decide) (by simp))
  intro L f' w7 h0 hd hI;have d18:f' 18=.pointer (some ⟨b,7,none⟩):=hI.ji (18,.pointer (some ⟨b,7,none⟩)) (by simp) (hd 18 (by kernel_rfl));obtain ⟨oa,oc,e9,hg,hk⟩:=hI.store (hd 9 (by kernel_rfl)) h0 (by simp);have HK:=zh hk;have hp:=Cw.o _ hg;have c7:=hp.cell (i:=7) rfl;have f7:=hp.frozen 7;clear hI hd hk hp hg;dsimp only;rw[e9,d18];go_wp2_with fail;exact ⟨rfl,(fun _ v=>HK.o v),fun t ht=>by cases ht⟩
 intro L f' w7 hA hI;obtain ⟨oa,oc,Wa,e9,hown,hg,hW⟩:=hI.s2 (hA 9 (by decide));rw[hA 19 (by decide),ah rfl] at hW;subst hW;have d1:f' 1=.pointer (some ⟨b,0,none⟩):=hI.ji (1,.pointer (some ⟨b,0,none⟩)) (by simp) (hA 1 (by decide));have d15:f' 15=.int .i64 (P.bytes+(eY dn:Int)):=hI.ji (15,.int .i64 (P.bytes+(eY dn:Int))) (by simp) (hA 15 (by decide));clear hI hA;have hp:=Cw.o _ hg;have JX:BU (Wa.setCell ⟨b,7,none⟩ (.slice oa (es.length+1) oc)) b C.id C.lim C.ro jo jq gc' P.eH tk kv (.slice oa (es.length+1) oc) rv P.bytes:=(by have h:=hp.set 7 (.slice oa (es.length+1) oc);rw[zNS] at h;exact h)
 have hO7:gO Wa (Wa.setCell ⟨b,7,none⟩ (.slice oa (es.length+1) oc)) B b 197:=gO.pts hlo ⟨_,_,hp⟩ [(7,.slice oa (es.length+1) oc)];have hR7:=(lS.o.need x (.slice da dn dc) Tm.o hg (by rw[Kk.o];exact hown)).ik hO7;have Mh:=(h_.o.own j_.o rJ hg (by decide)).pts hlo [(7,.slice oa (es.length+1) oc)] ⟨_,_,hp⟩ (by decide);change fD B w (Wa.setCell ⟨b,7,none⟩ (.slice oa (es.length+1) oc)) at Mh;have iA:BU ((Wa.setCell ⟨b,7,none⟩ (.slice oa (es.length+1) oc)).setCell ⟨b,9,none⟩ (.int .i64 (P.bytes+(eY dn:Int)))) b C.id C.lim C.ro jo jq gc' P.eH tk kv (.slice oa (es.length+1) oc) rv (P.bytes+(eY dn:Int)):=(by have h:=JX.set 9 (.int .i64 (P.bytes+(eY dn:Int)));rw[zNU] at h;exact h)
 have C5:=hR7.ik (gO.pts hlo ⟨_,_,JX⟩ [(9,.int .i64 (P.bytes+(eY dn:Int)))]);have jL:=zh (Mh.pts hlo [(9,.int .i64 (P.bytes+(eY dn:Int)))] ⟨_,_,JX⟩ (by decide))
 have HM9:=zh (show mX ((Wa.setCell ⟨b,7,none⟩ (.slice oa (es.length+1) oc)).setCell ⟨b,9,none⟩ (.int .i64 (P.bytes+(eY dn:Int)))) B b tk P1 from by
  rw[rI.o,Xv.o]
  exact ⟨jo,jq,gc',L',kv,ks,_,_,rv,hlo,iA,⟨C5.g,C5.gg,C5.k,C5.kk,C5.n,C5.nn,C5.r⟩⟩)
 have c9:=JX.cell (i:=9) rfl;have f9:=JX.frozen 9;clear hp JX hO7 hR7 Mh iA C5 hown hg e9
 try dsimp only
 rw[d1,d15];clear d1 d15;go_wp2_with fail;go_ret;exact ⟨rfl,HM9.o,jL.o⟩
end Go.Proofs.YtcgfilmmokmdjaaGreat
