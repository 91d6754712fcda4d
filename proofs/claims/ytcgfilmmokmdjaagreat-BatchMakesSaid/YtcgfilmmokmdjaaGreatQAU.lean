import Derived.Test.YtcgfilmmokmdjaaGreatQAO
import Derived.Test.YtcgfilmmokmdjaaGreatBe
import Derived.Test.YtcgfilmmokmdjaaGreatBk
import Derived.Test.YtcgfilmmokmdjaaGreatQAT
import Derived.Test.YtcgfilmmokmdjaaGreatHd
import Derived.Test.YtcgfilmmokmdjaaGreatQAC
import Derived.Test.YtcgfilmmokmdjaaGreatQAK
set_option linter.all false
set_option maxRecDepth 100000
set_option maxHeartbeats 32000000
namespace Go.Proofs.YtcgfilmmokmdjaaGreat
open Go.RowKit
structure gB (W:World) (B:Nat) (v:Value) (L:List GP):Prop where
 r:g_ W B 113 14 v L.length (L.flatMap iL)
 m:∀ p∈L,iH W B p.2 p.1.m.st
theorem gB.rd {W:World} {B:Nat} {v:Value} {L:List GP} (h:gB W B v L):fD W v L:=⟨⟨fun x _=>uA x,h.r.1⟩,fun p hp=>(h.m p hp).rd⟩
theorem gB.below {W W':World} {B:Nat} {v:Value} {L:List GP} (h:gB W B v L) (hb:Below W.heap.size W W'):gB W' B v L:=⟨h.r.below hb,fun p hp=>(h.m p hp).below hb⟩
theorem gB.gK {W W':World} {B b:Nat} {T':TypeId} {v:Value} {L:List GP} (h:gB W B v L) (ho:gw W W' B b T') (h1:113≠T') (h2:49≠T'):gB W' B v L:=⟨h.r.gK ho h1,fun p hp i hi=>(h.m p hp i hi).gK ho h2⟩
theorem gB.old {W:World} {B:Nat} {v:Value} {L:List GP} (h:fD W v L) (hB:W.heap.size≤B):gB W B v L:=⟨g_.old h.r.2 hB,fun p hp i hi=>g_.old (ui (h.m p hp i hi)) hB⟩
theorem zK5 (L:List GP):(L.flatMap iL).length=L.length*14:=by
 induction L with
 |nil=>rfl
 |cons p r ih=>rw[ct,aw,ih,uA,aV];omega
theorem gB.own {W:World} {B B' n:Nat} {v:Value} {L:List GP} (h:W.ownsRow B' 113 14 v n (L.flatMap iL)) (hm:∀ p∈L,iH W B p.2 p.1.m.st):gB W B v L:=by
 have e:=h.1;rw[zK5] at e;obtain rfl:n=L.length:=by omega
 exact ⟨g_.own h,hm⟩
structure ic (W:World) (B:Nat) (v:Value) (ks:List KP):Prop where
 row:W.ownsRow B 103 2 v ks.length (ks.flatMap gU)
 keys:∀ p∈ks,W.ownsRow B 24 1 p.2.1 p.2.2.length (p.2.2.map Eh)
 apart:ks.Pairwise fun p q=>p.2.1.ownBlock=none∨p.2.1.ownBlock≠q.2.1.ownBlock
theorem ic.below {W W':World} {B:Nat} {v:Value} {ks:List KP} (h:ic W B v ks) (hb:Below W.heap.size W W'):ic W' B v ks:=⟨zG h.row hb,fun p hp=>zG (h.keys p hp) hb,h.apart⟩
theorem ic.gK {W W':World} {B b:Nat} {T':TypeId} {v:Value} {ks:List KP} (h:ic W B v ks) (ho:gw W W' B b T') (h1:103≠T') (h2:24≠T'):ic W' B v ks:=⟨yp h.row ho h1,fun p hp=>yp (h.keys p hp) ho h2,h.apart⟩
abbrev Az (i l:Int) (r:Bool) (ga:Option Addr) (gn gc:Nat) (ey:Bool) (tk:Int) (kv nv rv:Value) (gQ:Int):Array Value:=#[.int .i64 i,.int .i64 l,.bool r,.slice ga gn gc,.bool ey,.int .i64 tk,kv,nv,rv,.int .i64 gQ]
structure px (W:World) (B:Nat) (P:fB) (ga:Option Addr) (gn gc:Nat) (L:List GP) (kv:Value) (ks:List KP) (nv:Value) (es:List (Nd×Value)) (rv:Value):Prop where
 g:gB W B (.slice ga gn gc) L
 gg:ep L=P.t.dY
 k:ic W B kv ks
 kk:iM ks=P.eu
 n:gm W B nv es
 nn:es.map (·.1)=P.needs
 r:W.ownsRow B 39 1 rv P.res.length (P.res.map tV)
section
variable {W W':World} {B b:Nat} {P:fB} {ga:Option Addr} {gn gc:Nat} {L:List GP} {kv:Value} {ks:List KP} {nv:Value} {es:List (Nd×Value)} {rv:Value}
theorem px.below (h:px W B P ga gn gc L kv ks nv es rv) (hb:Below W.heap.size W W'):px W' B P ga gn gc L kv ks nv es rv:=
 ⟨h.g.below hb,h.gg,h.k.below hb,h.kk,h.n.below hb,h.nn,zG h.r hb⟩
theorem px.gK (h:px W B P ga gn gc L kv ks nv es rv) (ho:gw W W' B b 197):px W' B P ga gn gc L kv ks nv es rv:=
 ⟨h.g.gK ho (by decide) (by decide),h.gg,h.k.gK ho (by decide) (by decide),h.kk,h.n.gK ho (by decide) (by decide),h.nn,yp h.r ho (by decide)⟩
end
abbrev AB (W:World) (b:Nat) (i l:Int) (r:Bool) (ga:Option Addr) (gn gc:Nat) (ey:Bool) (tk:Int) (kv nv rv:Value) (gQ:Int):Prop:=dZ W b (Az i l r ga gn gc ey tk kv nv rv gQ) 197
def l7 (W:World) (B b:Nat) (tk:Int) (P:fB):Prop:=∃ ga gn gc L kv ks nv es rv,B≤b∧AB W b P.t.id P.t.lim P.t.ro ga gn gc P.ey tk kv nv rv P.bytes∧px W B P ga gn gc L kv ks nv es rv
theorem l7.below {W W':World} {B b:Nat} {tk:Int} {P:fB} (h:l7 W B b tk P) (hb:Below W.heap.size W W'):l7 W' B b tk P:=by
 obtain ⟨ga,gn,gc,L,kv,ks,nv,es,rv,h1,h2,h3⟩:=h;exact ⟨ga,gn,gc,L,kv,ks,nv,es,rv,h1,h2.below hb,h3.below hb⟩
def QB (B:Nat) (p:eX×Int):mE:=⟨fun v w=>∃ a n c L,v=.tuple #[zO p.1.id p.1.lim p.1.ro a n c,.int .i64 p.2]∧gB w B (.slice a n c) L∧ep L=p.1.dY,fun _ _ _ hb ⟨a,n,c,L,h1,h2,h3⟩=>⟨a,n,c,L,h1,h2.below hb,h3⟩⟩
def zLK (B:Nat) (s:eX):mE:=⟨fun v w=>∃ a n c L,v=zO s.id s.lim s.ro a n c∧gB w B (.slice a n c) L∧ep L=s.dY,fun _ _ _ hb ⟨a,n,c,L,h1,h2,h3⟩=>⟨a,n,c,L,h1,h2.below hb,h3⟩⟩
theorem px.slot {W:World} {B:Nat} {P:fB} {ga iI:Option Addr} {gn gc iJ gc':Nat} {L L':List GP} {kv:Value} {ks:List KP} {nv:Value} {es:List (Nd×Value)} {rv:Value} (h:px W B P ga gn gc L kv ks nv es rv) (s:eX) (hg:gB W B (.slice iI iJ gc') L') (oK:ep L'=s.dY):px W B {P with t:=s} iI iJ gc' L' kv ks nv es rv:=
 ⟨hg,oK,h.k,h.kk,h.n,h.nn,h.r⟩
theorem gB.eY {W W':World} {B:Nat} {T':TypeId} {v:Value} {L:List GP} (h:gB W B v L) (ho:fA W W' B T') (h1:113≠T') (h2:49≠T'):gB W' B v L:=by
 rcases ho with ho|⟨g,ho⟩
 ·
  exact h.below ho
 exact h.gK ho h1 h2
theorem ic.eY {W W':World} {B:Nat} {T':TypeId} {v:Value} {ks:List KP} (h:ic W B v ks) (ho:fA W W' B T') (h1:103≠T') (h2:24≠T'):ic W' B v ks:=by
 rcases ho with ho|⟨g,ho⟩
 ·
  exact h.below ho
 exact h.gK ho h1 h2
def mT:List TypeId:=[197,56,103,24,39]
structure fc (B:Nat) (w W:World):Prop where
 b:Below B w W
 k:∀ (i:Nat) (c:Array Value) (T:TypeId) (f:Nat×Nat),w.heap[i]?=some (Obj.cells c T f)→T∉mT→W.heap[i]?=some (Obj.cells c T f)
theorem fc.size {B:Nat} {w W:World} (h:fc B w W):w.heap.size≤W.heap.size:=h.b.size
theorem fc.refl (B:Nat) (w:World):fc B w w:=⟨aj _ _,fun _ _ _ _ h _=>h⟩
theorem fc.of {B:Nat} {w W:World} (h:Below w.heap.size w W) (hB:B≤w.heap.size):fc B w W:=⟨h.mono hB,fun i c T f h1 _=>by rw[h.block i (Array.getElem?_eq_some_iff.1 h1).1];exact h1⟩
theorem fc.trans {B:Nat} {w W W':World} (h:fc B w W) (h2:fc B W W'):fc B w W':=⟨h.b.trans h2.b,fun i c T f h1 hT=>h2.k i c T f (h.k i c T f h1 hT) hT⟩
theorem fc.step {B:Nat} {w W W':World} (h:fc B w W) (hb:Below W.heap.size W W') (hB:B≤W.heap.size):fc B w W':=h.trans (fc.of hb hB)
theorem fc.eY {B B':Nat} {w W W':World} {T:TypeId} (h:fc B w W) (ho:fA W W' B' T) (hT:T∈mT) (hb:Below B w W'):fc B w W':=⟨hb,fun i c T2 f h1 NJ=>by
 have h2:=h.k i c T2 f h1 NJ
 have hlt:=(Array.getElem?_eq_some_iff.1 h2).1
 rcases ho with ho|⟨g,ho⟩
 ·
  rw[ho.block i hlt];exact h2
 rw[ho.blk i hlt (fun e=>by
  obtain ⟨c',f',h3⟩:=ho.ty
  rw[← e,h2] at h3
  injection h3 with h3
  injection h3 with _ h3
  exact NJ (h3▸hT))]
 exact h2⟩
theorem fc.pts {B b:Nat} {w W:World} {T:TypeId} (h:fc B w W) (hlo:B≤b) (vs:List (Nat×Value)) (ht:∃ c f,W.heap[b]?=some (.cells c T f)) (hT:T∈mT):fc B w (Go.Proofs.YtcgfilmmokmdjaaGreat.pts W b vs):=
 h.eY (.inr ⟨b,gw.pts hlo ht vs⟩) hT (zD hlo vs h.b)
theorem fc.own {B sz n:Nat} {w W W':World} {T:TypeId} {v:Value} {xs:List Value} (h:fc B w W) (hown:W.ownsRow B T sz v n xs) (hB:B≤W.heap.size) (hg:W.grownBy W' v.ownBlock) (hT:T∈mT):fc B w W':=
 h.eY (fA.row hown hg (ag B)) hT (zL h.b hown hB hg)
theorem fc.box {B b:Nat} {w W:World} {cs:Array Value} {T:TypeId} (h:fc B w W) (hb:dZ w b cs T) (hT:T∉mT):dZ W b cs T:=h.k _ _ _ _ hb hT
theorem px.need {W W':World} {B:Nat} {P:fB} {ga:Option Addr} {gn gc:Nat} {L:List GP} {kv:Value} {ks:List KP} {nv nG:Value} {es:List (Nd×Value)} {rv:Value} (h:px W B P ga gn gc L kv ks nv es rv) (x:Nd) (dv:Value) (hd:fR W B dv x.data)
  (hg:W.grownBy W' nv.ownBlock) (ho:W'.ownsRow B 56 4 nG (es.length+1) (xP es++vK (x,dv))):px W' B {P with needs:=P.needs++[x]} ga gn gc L kv ks nG (es++[(x,dv)]) rv:=by
 have hO:=fA.row h.n.row hg (ag _);refine ⟨h.g.eY hO (by decide) (by decide),h.gg,h.k.eY hO (by decide) (by decide),h.kk,⟨?_,fun p hp=>?_⟩,?_,yN h.r hO (by decide)⟩
 ·
  have e:xP (es++[(x,dv)])=xP es++vK (x,dv):=by unfold xP;rw[b7];simp
  rw[e,aw];exact ho
 ·
  rcases List.mem_append.1 hp with hp|hp
  ·
   exact g_.eY (h.n.dat p hp) hO (by decide)
  obtain rfl:=List.mem_singleton.1 hp;exact g_.eY hd hO (by decide)
 rw[bD,h.nn];rfl
theorem zLx (i l:Int) (r:Bool) (ga:Option Addr) (gn gc:Nat) (ey:Bool) (tk:Int) (kv nv rv:Value) (gQ:Int) (u:Value):(Az i l r ga gn gc ey tk kv nv rv gQ).setIfInBounds 7 u=Az i l r ga gn gc ey tk kv u rv gQ:=by
 simp only[aK,aM,aJ]
theorem zLz (i l:Int) (r:Bool) (ga:Option Addr) (gn gc:Nat) (ey:Bool) (tk:Int) (kv nv rv:Value) (gQ z:Int):(Az i l r ga gn gc ey tk kv nv rv gQ).setIfInBounds 9 (.int .i64 z)=Az i l r ga gn gc ey tk kv nv rv z:=by
 simp only[aK,aM,aJ]
theorem tj (i l:Int) (r:Bool) (ga:Option Addr) (gn gc:Nat) (ey:Bool) (tk:Int) (kv nv rv:Value) (gQ:Int) (i' l':Int) (r':Bool) (iI:Option Addr) (iJ gc':Nat) :
  (zR i' l' r' iI iJ gc').foldl (fun cs p=>cs.setIfInBounds p.1 p.2) (Az i l r ga gn gc ey tk kv nv rv gQ)=Az i' l' r' iI iJ gc' ey tk kv nv rv gQ:=by
 simp only[List.foldl_cons,List.foldl_nil,aK,aM,aJ]
theorem gB.JO {W:World} {B B' n:Nat} {v:Value} {L L':List GP} {y:GP} (h:W.ownsRow B' 113 14 v n (L'.flatMap iL)) (hq:∀ q∈L',q∈L∨q=y) (hL:∀ q∈L,iH W B q.2 q.1.m.st) (hy:iH W B y.2 y.1.m.st):gB W B v L':=
 gB.own h fun q h=>by
  rcases hq q h with h|rfl
  ·
   exact hL q h
  exact hy
theorem ic.put {W W1:World} {B g n cap k:Nat} {ks:List KP} (h:ic W B (.slice (some ⟨g,0,none⟩) n cap) ks) (hk:k<ks.length) {num:Int} (gT:(gY ks k).1=num) {v2:Value} {l2:List Int}
  (ho:W1.ownsRow B 24 1 v2 l2.length (l2.map Eh)) (hg:W.grownBy W1 (gY ks k).2.1.ownBlock) (hat:v2.ownBlock=(gY ks k).2.1.ownBlock∨v2.ownBlock=some W.heap.size) :
  ic (W1.setCell ⟨g,k*2+1,none⟩ v2) B (.slice (some ⟨g,0,none⟩) n cap) (ks.set k (num,v2,l2))∧gw W1 (W1.setCell ⟨g,k*2+1,none⟩ v2) B g 103:=by
 have hlen:n=ks.length:=by
  rcases h.row.2 with ⟨e,_⟩|⟨_,_,_,e,_⟩
  ·
   cases e
  injection e
 have hO:=fA.row (h.keys _ (uK hk)) hg (ag B);have nI:W1.ownsRow B 103 2 (.slice (some ⟨g,0,none⟩) n cap) ks.length (ks.flatMap gU):=yN h.row hO (by decide);have hgB:B≤g:=(nI.lt g rfl).1;have hty:=Lib.ownsRow_kind nI g rfl;have Ca:gw W1 (W1.setCell ⟨g,k*2+1,none⟩ v2) B g 103:=gw.pts hgB hty [(k*2+1,v2)];refine ⟨⟨?_,fun p hp=>?_,?_⟩,Ca⟩
 ·
  subst hlen;have h1:=(nI.stored (k*2) (.int .i64 num)).1;have hsame:(ks.flatMap gU).set (k*2) (.int .i64 num)=ks.flatMap gU:=by
   refine List.ext_getElem? fun j=>?_
   rw[dB]
   by_cases e:k*2=j
   ·
    subst e;rw[ah rfl];have hl:(ks.flatMap gU).length=ks.length*2:=yR 2 gU _ (fun x _=>xK x);rw[ah (by omega)];have h2:=vW 2 gU (0,.slice none 0 0,[]) ks (fun x _=>xK x) k 0 hk (by decide);rw[bB] at h2;rw[h2];rw[← gT]
    rfl
   rw[ai e]
  have h3:=(nI.stored (k*2+1) v2).1;have h4:=TH 2 gU xK ks k hk (num,v2,l2);have h5:JQ (ks.flatMap gU) (k*2) (gU (num,v2,l2))=(ks.flatMap gU).set (k*2+1) v2:=by
   show ((ks.flatMap gU).set (k*2) (.int .i64 num)).set (k*2+1) v2=_
   rw[hsame]
  rw[← h5,h4] at h3;rw[a_];exact h3
 ·
  rcases List.mem_iff_getElem.1 hp with ⟨j,hj,rfl⟩;rw[a_] at hj;rw[dJ]
  split
  ·
   exact yp ho Ca (by decide)
  rename_i hne;have hap:(ks[j]).2.1.ownBlock=none∨(ks[j]).2.1.ownBlock≠(gY ks k).2.1.ownBlock:=by
   rw[← uk hk];rcases Nat.lt_or_gt_of_ne hne with h1|h1
   ·
    rcases List.pairwise_iff_getElem.1 h.apart k j hk hj h1 with h2|h2
    ·
     by_cases e:(ks[j]).2.1.ownBlock=none
     ·
      exact .inl e
     exact .inr (by rw[h2];exact e)
    exact .inr h2.symm
   exact List.pairwise_iff_getElem.1 h.apart j k hj hk h1
  exact yp (World.ownsRow.kept (h.keys _ (bI hj)) hg hap) Ca (by decide)
 have hlt:∀ j (hj:j<ks.length) x,(ks[j]).2.1.ownBlock=some x→x<W.heap.size:=fun j hj x hx=>((h.keys _ (bI hj)).lt x hx).2
 rw[List.pairwise_iff_getElem];intro i j hi hj hij;rw[a_] at hi hj;have hap:=List.pairwise_iff_getElem.1 h.apart i j hi hj hij;rw[dJ,dJ]
 split
 ·
  rename_i e1;subst e1
  split
  ·
   omega
  show v2.ownBlock=none∨v2.ownBlock≠(ks[j]).2.1.ownBlock
  rcases hat with hat|hat
  ·
   rw[hat,← uk hk];exact hap
  rw[hat];exact .inr fun e=>by have:=hlt j hj _ e.symm;omega
 split
 ·
  rename_i e1 e2;subst e2
  show (ks[i]).2.1.ownBlock=none∨(ks[i]).2.1.ownBlock≠v2.ownBlock
  rcases hat with hat|hat
  ·
   rw[hat,← uk hk];exact hap
  rw[hat];exact .inr fun e=>by have:=hlt i hi _ e;omega
 exact hap
section
variable {W W1:World} {B b:Nat} {P:fB} {ga:Option Addr} {gn gc:Nat} {L:List GP} {kv rh:Value} {ks nO:List KP} {nv:Value} {es:List (Nd×Value)} {rv:Value}
theorem px.put {g n cap k:Nat} (h:px W B P ga gn gc L (.slice (some ⟨g,0,none⟩) n cap) ks nv es rv) (hk:k<ks.length) {num:Int} (gT:(gY ks k).1=num) {v2:Value} {l2:List Int}
  (ho:W1.ownsRow B 24 1 v2 l2.length (l2.map Eh)) (hg:W.grownBy W1 (gY ks k).2.1.ownBlock) (hat:v2.ownBlock=(gY ks k).2.1.ownBlock∨v2.ownBlock=some W.heap.size) :
  px (W1.setCell ⟨g,k*2+1,none⟩ v2) B {P with eu:=(iM ks).set k (num,l2)} ga gn gc L (.slice (some ⟨g,0,none⟩) n cap) (ks.set k (num,v2,l2)) nv es rv∧fA W W1 B 24∧gw W1 (W1.setCell ⟨g,k*2+1,none⟩ v2) B g 103:=by
 obtain ⟨h1,h2⟩:=h.k.put hk gT ho hg hat;have hO:fA W W1 B 24:=fA.row (h.k.keys _ (uK hk)) hg (ag B);have Ca:fA W1 (W1.setCell ⟨g,k*2+1,none⟩ v2) B 103:=.inr ⟨g,h2⟩;refine ⟨⟨(h.g.eY hO (by decide) (by decide)).eY Ca (by decide) (by decide),h.gg,h1,zGN _ _ _ _ _,(h.n.eY hO (by decide) (by decide)).eY Ca (by decide) (by decide),h.nn,yN (yN h.r hO (by decide)) Ca (by decide)⟩,hO,h2⟩
end
theorem zI1 {W:World} {B:Nat} {a:Option Addr} {n cap:Nat} {ks:List KP} (h:ic W B (.slice a n cap) ks) {k:Nat} (hk:k<ks.length):∃ g,a=some ⟨g,0,none⟩∧n=ks.length∧B≤g∧g<W.heap.size∧W.cell? ⟨g,k*2+1,none⟩=some (gY ks k).2.1:=by
 have hr:mY W (.slice a n cap) ks:=⟨fun x _=>xK x,zk h.row⟩
 have hn:=hr.len;obtain ⟨b,off,e,_,hc⟩:=hr.at (j:=k) (by omega);rcases h.row.2 with ⟨e2,_⟩|⟨g,c,cur,e2,hB,hg,_⟩
 ·
  cases e2;cases e
 injection e2 with e2 e3 e4;rw[e] at e2;injection e2 with e2;injection e2 with e2 e5;subst e2 e5;refine ⟨b,e,e3,hB,(Array.getElem?_eq_some_iff.1 hg).1,?_⟩;rw[aI] at hc;exact hc
theorem zJw {W:World} {B g n cap k:Nat} {ks:List KP} (h:W.ownsRow B 103 2 (.slice (some ⟨g,0,none⟩) n cap) ks.length (ks.flatMap gU)) (hk:k<ks.length):W.cell? ⟨g,k*2+1,none⟩=some (gY ks k).2.1∧W.frozen? ⟨g,k*2+1,none⟩=false:=by
 have hn:n=ks.length:=by
  rcases h.2 with ⟨e,_⟩|⟨_,_,_,e,_⟩
  ·
   cases e
  injection e
 subst hn;have hf:=xw h (k*2+1);have hr:mY W (.slice (some ⟨g,0,none⟩) ks.length cap) ks:=⟨fun x _=>xK x,zk h⟩
 obtain ⟨b,off,e,_,hc⟩:=hr.at hk;injection e with e;injection e with e1 e2;subst e1 e2;rw[aI] at hc;exact ⟨hc,hf⟩
theorem zLu (i l:Int) (r:Bool) (ga:Option Addr) (gn gc:Nat) (ey:Bool) (tk:Int) (kv nv rv:Value) (gQ:Int) (u:Value):(Az i l r ga gn gc ey tk kv nv rv gQ).setIfInBounds 6 u=Az i l r ga gn gc ey tk u nv rv gQ:=by
 simp only[aK,aM,aJ]
theorem Ln (i l:Int) (r:Bool) (ga:Option Addr) (gn gc:Nat) (ey:Bool) (tk:Int) (kv nv rv:Value) (gQ:Int) (u:Value):(Az i l r ga gn gc ey tk kv nv rv gQ).setIfInBounds 8 u=Az i l r ga gn gc ey tk kv nv u gQ:=by
 simp only[aK,aM,aJ]
theorem zLH (i l:Int) (r:Bool) (ga:Option Addr) (gn gc:Nat) (ey:Bool) (tk:Int) (kv nv rv:Value) (gQ:Int) (z:Bool):(Az i l r ga gn gc ey tk kv nv rv gQ).setIfInBounds 4 (.bool z)=Az i l r ga gn gc z tk kv nv rv gQ:=by
 simp only[aK,aM,aJ]
theorem px.res {W W1:World} {B:Nat} {P:fB} {ga:Option Addr} {gn gc:Nat} {L:List GP} {kv:Value} {ks:List KP} {nv:Value} {es:List (Nd×Value)} {rv DG:Value} (h:px W B P ga gn gc L kv ks nv es rv) (e:Int)
  (hg:W.grownBy W1 rv.ownBlock) (ho:W1.ownsRow B 39 1 DG (P.res.length+1) (P.res.map tV++[.int .i64 e])):px W1 B (more P e) ga gn gc L kv ks nv es DG∧fA W W1 B 39:=by
 have hO:fA W W1 B 39:=fA.row h.r hg (ag _);refine ⟨⟨h.g.eY hO (by decide) (by decide),h.gg,h.k.eY hO (by decide) (by decide),h.kk,h.n.eY hO (by decide) (by decide),h.nn,?_⟩,hO⟩
 show W1.ownsRow B _ 1 DG (P.res++[e]).length ((P.res++[e]).map tV)
 rw[aw,bD];exact ho
theorem ic.US {W:World} {B:Nat} {v:Value} {ks:List KP} {i:Nat} (hi:i≤ks.length) (ha:ks.Pairwise fun p q=>p.2.1.ownBlock=none∨p.2.1.ownBlock≠q.2.1.ownBlock) (hk:∀ p∈ks,W.ownsRow B 24 1 p.2.1 p.2.2.length (p.2.2.map Eh)) (num key:Int) (Hd:Value)
  (ho:W.ownsRow B 103 2 v (ks.length+1) ((ks.take i).flatMap gU++gU (num,Hd,[key])++(ks.drop i).flatMap gU)) (hkey:W.ownsRow B 24 1 Hd 1 [Eh key]) (hap:∀ p∈ks,p.2.1.ownBlock≠Hd.ownBlock) :
  ic W B v (ks.take i++(num,Hd,[key])::ks.drop i):=by
 have hmem:∀ p∈ks.take i++(num,Hd,[key])::ks.drop i,p∈ks∨p=(num,Hd,[key]):=fun p hp=>by
  rcases List.mem_append.1 hp with hp|hp
  ·
   exact .inl (bT hp)
  rcases List.mem_cons.1 hp with rfl|hp
  ·
   exact .inr rfl
  exact .inl (cN hp)
 refine ⟨?_,fun p hp=>?_,?_⟩
 ·
  have el:(ks.take i++(num,Hd,[key])::ks.drop i).length=ks.length+1:=by
   rw[aw,aV,ay,aP];omega
  have ef:(ks.take i++(num,Hd,[key])::ks.drop i).flatMap gU=(ks.take i).flatMap gU++gU (num,Hd,[key])++(ks.drop i).flatMap gU:=by
   rw[b7,ct,bt]
  rw[el,ef];exact ho
 ·
  rcases hmem p hp with hp|rfl
  ·
   exact hk p hp
  exact hkey
 rw[List.pairwise_append,dC];refine ⟨ha.sublist (List.take_sublist _ _),⟨fun y hy=>.inr fun e=>hap y (cN hy) e.symm,ha.sublist (List.drop_sublist _ _)⟩,fun x hx y hy=>?_⟩;rcases List.mem_cons.1 hy with rfl|hy
 ·
  exact .inr (hap x (bT hx))
 have e:ks=ks.take i++ks.drop i:=(b9 i ks).symm;rw[e,List.pairwise_append] at ha;exact ha.2.2 x hx y hy
end Go.Proofs.YtcgfilmmokmdjaaGreat
namespace Go.Proofs.YtcgfilmmokmdjaaGreat
open Go.RowKit
theorem iH.oo {w':World} {B B':Nat} {s s':Sl} {f f':Nat→List It} (h:eU w' B' s f s' f') (hr:iH w' B s f):iH w' B s' f':=by
 rcases h with ⟨rfl,h⟩|h
 ·
  exact fun i hi=>by rw[h i hi];exact hr i hi
 exact fun i hi=>g_.own (h i hi)
theorem iH.nil (w:World) (B:Nat):iH w B Sl.nil (fun _=>[]):=fun i hi=>g_.own (eZ.nil w B i hi)
theorem gB.pick {w:World} {B:Nat} {v:Value} {L:List GP} (h:gB w B v L) {g:Gn} {s:Sl} (hp:(g,s)∈L∨(g=ix∧s=Sl.nil)):iH w B s g.m.st:=by
 rcases hp with hp|⟨rfl,rfl⟩
 ·
  exact h.m _ hp
 exact iH.nil w B
theorem zMM (s:eX) (a:Option Addr) (n c:Nat) (L:List GP) (W:World) (hr:fD W (.slice a n c) L) (hg:ep L=s.dY) (hl:fu 1000 s.dY) :
  Calls Tryz.prog 77 #[zO s.id s.lim s.ro a n c] W (Zy W L (wn s)):=by
 have h:=zMN s.id s.lim s.ro a n c L W hr (xu (hg▸hl) (by decide));obtain ⟨i,l,r,g⟩:=s;dsimp only at hg h ⊢;subst hg;exact h
theorem zEg (s:eX) (a:Option Addr) (n c:Nat) (L:List GP) (W:World) (hr:fD W (.slice a n c) L) (hg:ep L=s.dY) (hs:fu 1000 s.dY) (g:Gn) (sl:Sl) (hm:fG W sl g.m.st) (hl:∀ j,j<8→(g.m.st j).length≤10000) :
  Calls Tryz.prog 44 #[zO s.id s.lim s.ro a n c,zd g.num g.rev g.mode g.size sl g.m.live g.m.d_] W (GU W L (g,sl) (yV s g)):=by
 have h:=zL2 s.id s.lim s.ro a n c L W hr (xu (hg▸hs) (by decide)) (g,sl) hm hl;obtain ⟨i,l,r,gs⟩:=s;dsimp only at hg h ⊢;subst hg;exact h
def uH (P:fB) (n:Nat):Bool:=!(decide (0<P.needs.length)&&decide (16384<P.bytes+(eN n:Int)))
structure pE (ps:List (Nat×Value)) (W0:World) (b B:Nat) (T:TypeId) (n:Nat) (A8:Option Nat) (xs ys:List Value) (gQ:Value) (L:Nat→Bool) (f:Nat→Value) (W:World):Prop where
 jm:∀ q∈ps,L q.1=true→f q.1=q.2
 s0:L 8=false→W=W0
 s1:L 8=true→L 9=false→W=W0.alloc (.cells ys.toArray T)∧f 8=.slice (some ⟨W0.heap.size,0,none⟩) 1 1
 s2:L 9=true→∃ oa oc Wa,f 9=.slice oa (n+1) oc∧Wa.ownsRow B T 4 (.slice oa (n+1) oc) (n+1) (xs++ys)∧(W0.alloc (.cells ys.toArray T)).grownBy Wa A8∧W=(if L 19=true then Wa.setCell ⟨b,7,none⟩ (.slice oa (n+1) oc) else Wa)
 d9:L 9=true→L 8=true∧L 6=true
 d8:L 8=true→L 7=true
 d19:L 19=true→L 9=true
 c9:W.cell? ⟨b,9,none⟩=some gQ
section
variable {ps:List (Nat×Value)} {W0:World} {b B:Nat} {T:TypeId} {n:Nat} {A8:Option Nat} {xs ys:List Value} {gQ:Value} {L:Nat→Bool} {f:Nat→Value} {W:World}
theorem pE.start (h:W0.cell? ⟨b,9,none⟩=some gQ) (f:Nat→Value):pE ps W0 b B T n A8 xs ys gQ (fun _=>false) f W0:=
 ⟨(fun _ _ h=>by cases h),(fun _=>rfl),(fun h=>by cases h),(fun h=>by cases h),(fun h=>by cases h),(fun h=>by cases h),(fun h=>by cases h),h⟩
theorem pE.UT (h:pE ps W0 b B T n A8 xs ys gQ L f W) (h0:L 6=false∨L 8=false):L 9=false:=by
 cases e:L 9 with
 |false=>rfl
 |true=>have:=h.d9 e;rcases h0 with h0|h0<;>simp[h0] at this
theorem pE.no8 (h:pE ps W0 b B T n A8 xs ys gQ L f W) (h0:L 7=false):L 8=false:=by
 cases e:L 8 with
 |false=>rfl
 |true=>have:=h.d8 e;simp[h0] at this
theorem pE.N8 (h:pE ps W0 b B T n A8 xs ys gQ L f W) (h0:L 9=false):L 19=false:=by
 cases e:L 19 with
 |false=>rfl
 |true=>have:=h.d19 e;simp[h0] at this
theorem pE.early (h:pE ps W0 b B T n A8 xs ys gQ L f W) (h9:L 9=false):Below W0.heap.size W0 W:=by
 cases e:L 8 with
 |false=>rw[h.s0 e];exact aj _ _
 |true=>rw[(h.s1 e h9).1];exact (aj _ _).alloc (ag _) _
theorem pE.pure (h:pE ps W0 b B T n A8 xs ys gQ L f W) {i:Nat} {v:Value} (h8:8≠i) (h9:9≠i) (QC:19≠i) (hp:∀ q∈ps,q.1=i→v=q.2):pE ps W0 b B T n A8 xs ys gQ (nZ L i) (xB f i v) W:=by
 refine ⟨fun q hq hL=>?_,?_,?_,?_,?_,?_,?_,h.c9⟩
 ·
  by_cases e:q.1=i
  ·
   rw[e,uO];exact hp q hq e
  rw[yw e];rw[zN e] at hL;exact h.jm q hq hL
 ·
  rw[zN h8];exact h.s0
 ·
  rw[zN h8,zN h9,yw h8];exact h.s1
 ·
  rw[zN h9,zN QC,yw h9];exact h.s2
 ·
  rw[zN h9,zN h8];intro e;refine ⟨(h.d9 e).1,?_⟩
  by_cases e6:6=i
  ·
   subst e6;exact uP L 6
  rw[zN e6];exact (h.d9 e).2
 ·
  rw[zN h8];intro e
  by_cases e7:7=i
  ·
   subst e7;exact uP L 7
  rw[zN e7];exact h.d8 e
 rw[zN QC,zN h9];exact h.d19
theorem pE.eight (h:pE ps W0 b B T n A8 xs ys gQ L f W) (h8:L 8=false) (h7:L 7=true) (hp:∀ q∈ps,q.1≠8):pE ps W0 b B T n A8 xs ys gQ (nZ L 8) (xB f 8 (.slice (some ⟨W.heap.size,0,none⟩) 1 1)) (W.alloc (.cells ys.toArray T)):=by
 have n9:=h.UT (.inr h8);have n19:=h.N8 n9;have hW:=h.s0 h8;subst hW;refine ⟨fun q hq hL=>?_,(fun e=>by rw[uP] at e;cases e),(fun _ _=>⟨rfl,uO ..⟩),?_,?_,?_,?_,?_⟩
 ·
  rw[yw (hp q hq)];rw[zN (hp q hq)] at hL;exact h.jm q hq hL
 ·
  rw[zN (by decide),n9];intro e;cases e
 ·
  rw[zN (by decide),n9];intro e;cases e
 ·
  intro _;rw[zN (by decide)];exact h7
 ·
  rw[zN (by decide),n19];intro e;cases e
 rw[((aj W.heap.size W).alloc (ag _) (.cells ys.toArray T)).cell (cA W _ h.c9)];exact h.c9
theorem pE.app (h:pE ps W0 b B T n A8 xs ys gQ L f W) (h8:L 8=true) (h6:L 6=true) (h9:L 9=false) (hp:∀ q∈ps,q.1≠9):W=W0.alloc (.cells ys.toArray T)∧f 8=.slice (some ⟨W0.heap.size,0,none⟩) 1 1 ∧
  ∀ oa oc W',W'.ownsRow B T 4 (.slice oa (n+1) oc) (n+1) (xs++ys)→W.grownBy W' A8→W'.cell? ⟨b,9,none⟩=some gQ→pE ps W0 b B T n A8 xs ys gQ (nZ L 9) (xB f 9 (.slice oa (n+1) oc)) W':=by
 obtain ⟨hW,e8⟩:=h.s1 h8 h9;have n19:=h.N8 h9;refine ⟨hW,e8,fun oa oc W' ho hg hc=>⟨fun q hq hL=>?_,?_,?_,?_,?_,?_,?_,hc⟩⟩
 ·
  rw[yw (hp q hq)];rw[zN (hp q hq)] at hL;exact h.jm q hq hL
 ·
  rw[zN (by decide),h8];intro e;cases e
 ·
  rw[uP];intro _ e;cases e
 ·
  intro _;refine ⟨oa,oc,W',uO ..,ho,hW▸hg,?_⟩;rw[zN (by decide),n19,ai (by decide)]
 ·
  intro _;rw[zN (by decide),zN (by decide)];exact ⟨h8,h6⟩
 ·
  rw[zN (by decide),zN (by decide)];exact h.d8
 intro _;exact uP L 9
theorem pE.store (h:pE ps W0 b B T n A8 xs ys gQ L f W) (h9:L 9=true) (QC:L 19=false) (hp:∀ q∈ps,q.1≠19):∃ oa oc,f 9=.slice oa (n+1) oc∧(W0.alloc (.cells ys.toArray T)).grownBy W A8 ∧
  ∀ v,pE ps W0 b B T n A8 xs ys gQ (nZ L 19) (xB f 19 v) (W.setCell ⟨b,7,none⟩ (.slice oa (n+1) oc)):=by
 obtain ⟨oa,oc,Wa,e9,ho,hg,hW⟩:=h.s2 h9;rw[QC,ai (by decide)] at hW;subst hW;refine ⟨oa,oc,e9,hg,fun v=>⟨fun q hq hL=>?_,?_,?_,?_,?_,?_,?_,?_⟩⟩
 ·
  rw[yw (hp q hq)];rw[zN (hp q hq)] at hL;exact h.jm q hq hL
 ·
  rw[zN (by decide),(h.d9 h9).1];intro e;cases e
 ·
  rw[zN (by decide),zN (by decide),h9];intro _ e;cases e
 ·
  intro _;refine ⟨oa,oc,W,?_,ho,hg,?_⟩
  ·
   rw[yw (by decide)];exact e9
  rw[uP,ah rfl]
 ·
  rw[zN (by decide),zN (by decide),zN (by decide)];exact h.d9
 ·
  rw[zN (by decide),zN (by decide)];exact h.d8
 ·
  intro _;rw[zN (by decide)];exact h9
 exact (cz (h:=fun e=>by injection e with _ e _;exact absurd e (by decide)) ..).trans h.c9
end
theorem zCB {w:World} {B b:Nat} {tk:Int} {P:fB} {ga:Option Addr} {gn gc:Nat} {L:List GP} {kv:Value} {ks:List KP} {nv:Value} {es:List (Nd×Value)} {rv:Value} (hlo:B≤b) (hP:AB w b P.t.id P.t.lim P.t.ro ga gn gc P.ey tk kv nv rv P.bytes) (hR:px w B P ga gn gc L kv ks nv es rv) (hl:fu 900 P.t.dY) (hB:B≤w.heap.size) (x:Nd) (da:Option Addr) (dn dc:Nat) (hx:fR w B (.slice da dn dc) x.data) (nk:x.data.length=dn) (il:dn≤100000) (hel:es.length≤1000) (hby:0≤P.bytes∧P.bytes≤1000000000) :
  Calls Tryz.prog 154 #[.pointer (some ⟨b,0,none⟩),.agg #[.int .u64 (x.key:Int),.int .u32 (x.ck:Int),.bool x.del,.slice da dn dc]] w fun e w'=>e=.returned (.bool (uH P dn))∧l7 w' B b tk (if uH P dn=true then xH P x else P)∧fc B w w':=by
 have fU:b<w.heap.size:=hP.lt;have IL:∀ g,nv.ownBlock=some g→g<w.heap.size:=fun g h=>(hR.n.row.lt g h).2
 have Dv:eN dn≤4127:=xj dn;have N9:es.length=P.needs.length:=by rw[← hR.nn,aH]
 have D7:=zh (fun W (hb:Below w.heap.size w W)=>zMM P.t ga gn gc L W (hR.g.rd.below hb) hR.gg (hl.mono (by decide)));have Gq:=kO hl;have mG:=zh (fun W sT v (hm:fG W sT (wn P.t).2.m.st) (hr:nC W v [(x,.slice da dn dc)])=>YX (wn P.t).2 sT v [(x,.slice da dn dc)] 900 W hm Gq hr (by simp) (fun p hp=>by obtain rfl:=List.mem_singleton.1 hp;show x.data.length≤_;omega));have Ab:=zh (fun W sA (hb:Below w.heap.size w W) (hm:fG W sA (xE (wn P.t).2 [x]).2.m.st)=>zEg P.t ga gn gc L W (hR.g.rd.below hb) hR.gg (hl.mono (by decide)) (xE (wn P.t).2 [x]).2 sA hm (fun j hj=>ak (qK Gq j hj) (by simp)));have oZ:=zh (show xH P x={P with t:=(yV P.t (xE (wn P.t).2 [x]).2).1,needs:=P.needs++[x],bytes:=P.bytes+(eN x.data.length:Int)} from rfl);generalize xH P x=P1 at *;simp only[List.map_cons,List.map_nil] at mG
 generalize yV P.t (xE (wn P.t).2 [x]).2=C at *;obtain ⟨C,ce⟩:=C;generalize Ug:wn P.t=TT at *;clear Ug Gq;obtain ⟨te,T⟩:=TT;generalize Uh:xE T [x]=AA at *;clear Uh;obtain ⟨ae,A⟩:=AA;obtain ⟨tn,tr,tm,tz,⟨tf,tL,tG⟩⟩:=T;obtain ⟨an,ar,am,az,⟨af,aL,aG⟩⟩:=A;dsimp only at D7 mG Ab oZ;have HD:=zh hx;have HP:=zh hP;have HR:=zh hR;have jl:=zh (fun W=>KQ dn W);have Ui:=zh (show (eN x.data.length:Int)=(eN dn:Int) by rw[nk]);obtain ⟨T,hT⟩:∃ T:Bool,T=uH P dn:=⟨_,rfl⟩
 have hTe:(!T)=(decide (0<es.length)&&decide (16384<P.bytes+(eN dn:Int))):=by rw[hT,N9];unfold uH;rw[Bool.not_not]
 rw[← hT];have N_:=zh hTe;clear hP hR hx hl hT hTe N9;have Ig:=zh (show vK (x,.slice da dn dc)=[.int .u64 (x.key:Int),.int .u32 (x.ck:Int),.bool x.del,.slice da dn dc] from rfl);generalize (x.key:Int)=xk at *;generalize (x.ck:Int)=xq at *;generalize x.del=xd at *
 go_enter Tryz.func154,Tryz.ntmps154
 go_upto_region 1 with fail;change Code.wp _ _ _ _ (w.alloc (.cells #[.int .u64 xk,.int .u32 xq,.bool xd,.slice da dn dc] 56));have ew:=(aj w.heap.size w).alloc (ag _) (.cells #[.int .u64 xk,.int .u32 xq,.bool xd,.slice da dn dc] 56);have HX:=zh (dZ.new w #[.int .u64 xk,.int .u32 xq,.bool xd,.slice da dn dc] 56);have HB:=zh ew;replace HD:=zh (HD.out.below ew);replace HP:=zh (HP.out.below ew);replace HR:=zh (HR.out.below ew);have hb3:b<w.heap.size:=fU;clear ew;generalize w.alloc (.cells #[.int .u64 xk,.int .u32 xq,.bool xd,.slice da dn dc] 56)=w1 at *;generalize nH:w.heap.size=b3 at *;have NK:=zh nH;have hz1:w.heap.size≤b3:=by omega
 have hz2:b3≤w.heap.size:=by omega
 clear nH;have n3:=HX.out.cell (i:=3) rfl;go_wp2_with fail;refine (jl.out w1).mono ?_;rintro e w9 ⟨rfl,hw9⟩;subst hw9;have p7:=HP.out.cell (i:=7) rfl;have p9:=HP.out.cell (i:=9) rfl;obtain ⟨FX,FY,G6,aj_,aka,akb⟩:=zH HR.out.n.row;subst G6;have hbz:=hby;go_upto_region 2 with fail
 go_cut [29] (fun v wx=>v=.bool (!T)∧wx=w1)
 case first =>
  by_cases c1:0<es.length
  ·
   have i1:(0:Int)<(es.length:Int):=by omega
   have J8:(!T)=decide (16384<P.bytes+(eN dn:Int)):=by rw[N_.out,aC c1,bV]
   clear N_;go_wp2_with fail;go_meet
   case rel=>exact ⟨by rw[J8],rfl⟩
  have i1:¬ (0:Int)<(es.length:Int):=by omega
  have J8:(!T)=false:=by rw[N_.out,aD c1,dt]
  clear N_;go_wp2_with fail;go_meet
  case rel=>exact ⟨by rw[J8],rfl⟩
 obtain ⟨rfl,hwc⟩:=hcut;generalize wc=UU at *;replace hwc:=hwc.symm;subst hwc;clear n3 p7 p9 N_
 cases T
 ·
  have eD:=zh (show fc B w w1 from fc.of (HB.out.mono hz1) (ak hB hz2));have HMz:=zh (show l7 w1 B b tk P from ⟨ga,gn,gc,L,kv,ks,_,es,rv,hlo,HP.out,HR.out⟩);go_wp2_with fail;go_ret;exact ⟨rfl,HMz.out,eD.out⟩
 skip
 have p0:=HP.out.cell (i:=0) rfl;have p1:=HP.out.cell (i:=1) rfl;have p2:=HP.out.cell (i:=2) rfl;have p3:=HP.out.cell (i:=3) rfl;go_wp2_with fail;refine (D7.out w1 HB.out).mono ?_;rintro e w2 ⟨⟨sT,rfl,ho⟩,hb⟩;dsimp only;clear p0 p1 p2 p3 D7;have eM:=zh (hb.mono (ag _));replace HX:=zh (HX.out.below hb);replace HD:=zh (HD.out.below hb);replace HP:=zh (HP.out.below hb);replace HR:=zh (HR.out.below hb);have HT:=zh (show iH w2 B sT tf from HR.out.g.pick ho);clear ho;replace HB:=zh (HB.out.trans (hb.mono (by have:=HB.out.size;omega)));clear hb eM;have rD:=HR;have Be:=HP;have FH:=HD;have lD:=HX;have Bj:=HT;have eM:=HB;go_upto_region 5 with fail;change Code.wp _ _ _ _ (w2.alloc (.cells (zX tn tr tm tz sT tL tG) 113));have ew:=zZ w2 tn tr tm tz sT tL tG 113;have HG:=zh (dZ.new w2 (zX tn tr tm tz sT tL tG) 113)
 have rQ:b3≤w2.heap.size:=ak hz2 HB.out.size;have hX3:b3<w2.heap.size:=HX.out.lt;replace HX:=zh (HX.out.below ew);replace HD:=zh (HD.out.below ew);replace HP:=zh (HP.out.below ew);replace HR:=zh (HR.out.below ew);replace HT:=zh (show iH _ B sT tf from HT.out.below ew);replace HB:=zh (HB.out.trans (ew.mono rQ));have jT:=zh ew;clear ew;generalize w2.alloc (.cells (zX tn tr tm tz sT tL tG) 113)=w3 at *;generalize EV:w2.heap.size=b4 at *;have NL:=zh EV;have hz3:w2.heap.size≤b4:=by omega
 have PX:b4≤w2.heap.size:=by omega
 clear EV;obtain ⟨g0,g1,g2,g3,g4,g5,g6,g7,g8,g9,g10,g11,g12,g13⟩:=HG.out.gen.q;have n0:=HX.out.cell (i:=0) rfl;have n1:=HX.out.cell (i:=1) rfl;have n2:=HX.out.cell (i:=2) rfl;have n3:=HX.out.cell (i:=3) rfl;go_wp2_with fail;have ew:=(aj w3.heap.size w3).alloc (ag _) (.cells #[.int .u64 xk,.int .u32 xq,.bool xd,.slice da dn dc] 56);have HN:=zh (show nC (w3.alloc (.cells #[.int .u64 xk,.int .u32 xq,.bool xd,.slice da dn dc] 56)) (.slice (some ⟨w3.heap.size,0,none⟩) 1 1) [(x,.slice da dn dc)] from ⟨by rw[show xP [(x,.slice da dn dc)]=[.int .u64 xk,.int .u32 xq,.bool xd,.slice da dn dc] by unfold xP;rw[ct,List.flatMap_nil,bZ,Ig.out]];exact Rd.new w3 4 [.int .u64 xk,.int .u32 xq,.bool xd,.slice da dn dc] 56 1 rfl (by decide),fun p hp=>by obtain rfl:=List.mem_singleton.1 hp;exact iE.below HD.out.1 ew⟩)
 refine (mG.out _ sT _ (HT.out.below ew).rd HN.out).mono ?_;rintro e w4 ⟨⟨sA,rfl,ho⟩,hb⟩;dsimp only;replace hb:=zA ew hb;clear g0 g1 g2 g3 g4 g5 g6 g7 g8 g9 g10 g11 g12 g13;clear n0 n1 n2 n3 HN mG ew;have HA:=zh (show iH w4 B sA af from iH.oo ho (HT.out.below hb));have B_:b3≤w3.heap.size:=ak hz2 HB.out.size;have hb4:b4<w3.heap.size:=HG.out.lt;replace HG:=zh (HG.out.below hb);replace HX:=zh (HX.out.below hb);replace HD:=zh (HD.out.below hb);replace HP:=zh (HP.out.below hb);replace HR:=zh (HR.out.below hb);replace HB:=zh (HB.out.trans (hb.mono B_));replace jT:=zh (jT.out.trans (hb.mono (show b4≤w3.heap.size by omega)));clear ho hb HT HG;go_upto_region 6 with fail;change Code.wp _ _ _ _ (w4.alloc (.cells (zX an ar am az sA aL aG) 113));have ew:=zZ w4 an ar am az sA aL aG 113;have NM:=zh (dZ.new w4 (zX an ar am az sA aL aG) 113)
 have JU:=zh (show iH _ B sA af from HA.out.below ew);have gH:=zh (HB.out.trans (ew.mono (by have:=HB.out.size;omega)));replace HX:=zh (HX.out.below ew);replace HD:=zh (HD.out.below ew);replace HP:=zh (HP.out.below ew);replace HR:=zh (HR.out.below ew);clear ew HA HB jT Be rD FH lD Bj eM;generalize w4.alloc (.cells (zX an ar am az sA aL aG) 113)=v5 at *;generalize w4.heap.size=b8 at *;have FQ:B≤v5.heap.size:=by have:=gH.out.size;omega
 go_cut [46] (fun _ wx=>∃ iI iJ gc' L',Hid (AB wx b C.id C.lim C.ro iI iJ gc' P.ey tk kv (.slice FX es.length FY) rv P.bytes)∧Hid (px wx B {P with t:=C} iI iJ gc' L' kv ks (.slice FX es.length FY) es rv)∧Hid (fR wx B (.slice da dn dc) x.data)∧Hid (dZ wx b3 #[.int .u64 xk,.int .u32 xq,.bool xd,.slice da dn dc] 56)∧Hid (fc B w wx))
 case first =>
  refine ye [eR (.pointer (some ⟨b,0,none⟩)),eR (.pointer (some ⟨b,0,none⟩)),eR (.pointer (some ⟨b,0,none⟩)),eR (.pointer (some ⟨b,0,none⟩)),eR (zO P.t.id P.t.lim P.t.ro ga gn gc),eR (zd an ar am az sA aL aG),QB B (C,ce),QB B (C,ce),zLK B C,eR (.int .i64 ce),eR (.pointer (some ⟨b,0,none⟩)),eR (.pointer (some ⟨b,0,none⟩))] [] 78 9 (by kernel_rfl) (by kernel_rfl) rfl rfl (by decide) (by rfl) (by kernel_rfl) (fun f=>by simp[fF,zT,Act.put];exact rfl) ?_ ?_ ?_
  ·
   refine ⟨?_,?_,?_,?_,?_,?_,?_,?_,?_,?_,?_,?_,trivial⟩
   ·
    intro f w1 hb hd;clear hd;dsimp only;go_wp2_with fail;exact pS rfl (by simp)
   ·
    intro f w1 hb hd;clear hd;dsimp only;go_wp2_with fail;exact pS rfl (by simp)
   ·
    intro f w1 hb hd;have d1:f 1=(.pointer (some ⟨b,0,none⟩)):=hd 1 (by kernel_rfl);clear hd;dsimp only;rw[d1];go_wp2_with fail;exact pS rfl (by simp)
   ·
    intro f w1 hb hd;have d2:f 2=(.pointer (some ⟨b,0,none⟩)):=hd 2 (by kernel_rfl);clear hd;dsimp only;rw[d2];go_wp2_with fail;exact pS rfl (by simp)
   ·
    intro f w1 hb hd;have d3:f 3=(.pointer (some ⟨b,0,none⟩)):=hd 3 (by kernel_rfl);clear hd;dsimp only;rw[d3];have hx:=HP.out.below hb;have q0:=hx.cell (i:=0) rfl;have q1:=hx.cell (i:=1) rfl;have q2:=hx.cell (i:=2) rfl;have q3:=hx.cell (i:=3) rfl;clear hx;go_wp2_with fail;exact pS rfl (by simp)
   ·
    intro f w1 hb hd;clear hd;dsimp only;have hx:=(NM.out.below hb).gen;obtain ⟨q0,q1,q2,q3,q4,q5,q6,q7,q8,q9,Dq,Dr,Ds,Dt⟩:=hx.q;clear hx;go_wp2_with fail;exact pS rfl (by simp)
   ·
    intro f w1 hb hd;have d4:f 4=(zO P.t.id P.t.lim P.t.ro ga gn gc):=hd 4 (by kernel_rfl);have d5:f 5=(zd an ar am az sA aL aG):=hd 5 (by kernel_rfl);clear hd;dsimp only;rw[d4];rw[d5];go_wp2_with fail;refine (Ab.out w1 sA (gH.out.trans (hb.mono (ak hz2 gH.out.size))) (JU.out.below hb).rd).mono ?_;rintro e w9 ⟨⟨qa,qn,qc,qL,rfl,hown,Oa,hgn⟩,gI⟩;have oO:=zh (show gB w9 B (.slice qa qn qc) qL from gB.JO hown Oa (fun q hq=>(((HR.out.below hb).g.below gI).m q hq)) ((JU.out.below hb).below gI));have jU:=zh hgn;clear hown hgn Oa;go_wp2_with fail;exact ⟨rfl,gI,fun t ht=>by injection ht with ht;subst ht;exact ⟨⟨qa,qn,qc,qL,rfl,oO.out,jU.out⟩,fun h=>by simp at h⟩⟩
   ·
    intro f w1 hb hd;obtain ⟨a6,n6,c6,L6,d6,r6,g6⟩:=show ∃ a n c L,f 6=.tuple #[zO C.id C.lim C.ro a n c,.int .i64 ce]∧gB w1 B (.slice a n c) L∧ep L=C.dY from hd 6 (by kernel_rfl);clear hd;dsimp only;rw[d6];have oO:=zh r6;have jU:=zh g6;clear r6 g6;go_wp2_with fail;exact ⟨rfl,aj _ _,fun t ht=>by injection ht with ht;subst ht;exact ⟨⟨a6,n6,c6,L6,rfl,oO.out,jU.out⟩,fun h=>by simp at h⟩⟩
   ·
    intro f w1 hb hd;obtain ⟨a7,n7,c7,L7,d7,r7,g7⟩:=show ∃ a n c L,f 7=.tuple #[zO C.id C.lim C.ro a n c,.int .i64 ce]∧gB w1 B (.slice a n c) L∧ep L=C.dY from hd 7 (by kernel_rfl);clear hd;dsimp only;rw[d7];have oO:=zh r7;have jU:=zh g7;clear r7 g7;go_wp2_with fail;exact ⟨rfl,aj _ _,fun t ht=>by injection ht with ht;subst ht;exact ⟨⟨a7,n7,c7,L7,rfl,oO.out,jU.out⟩,fun h=>by simp at h⟩⟩
   ·
    intro f w1 hb hd;obtain ⟨a7,n7,c7,L7,d7,r7,g7⟩:=show ∃ a n c L,f 7=.tuple #[zO C.id C.lim C.ro a n c,.int .i64 ce]∧gB w1 B (.slice a n c) L∧ep L=C.dY from hd 7 (by kernel_rfl);clear hd;dsimp only;rw[d7];clear r7 g7;go_wp2_with fail;exact pS rfl (by simp)
   ·
    intro f w1 hb hd;have d0:f 0=(.pointer (some ⟨b,0,none⟩)):=hd 0 (by kernel_rfl);clear hd;dsimp only;rw[d0];go_wp2_with fail;exact pS rfl (by simp)
   intro f w1 hb hd;have d10:f 10=(.pointer (some ⟨b,0,none⟩)):=hd 10 (by kernel_rfl);clear hd;dsimp only;rw[d10];go_wp2_with fail;exact pS rfl (by simp)
  ·
   intro f w8 hb hd jw;clear jw;obtain ⟨a8,n8,c8,L8,d8,r8,g8⟩:=show ∃ a n c L,f 8=zO C.id C.lim C.ro a n c∧gB w8 B (.slice a n c) L∧ep L=C.dY from hd 8 (show 8<12 by decide);have d11:f 11=.pointer (some ⟨b,0,none⟩):=hd 11 (show 11<12 by decide)
   try dsimp only
   rw[d8,d11];clear hd d8 d11;have gp:=HP.out.below hb;have HO:=gw.pts (T:=197) hlo ⟨_,_,gp⟩ (zR C.id C.lim C.ro a8 n8 c8);have iW:=zh (show AB _ b C.id C.lim C.ro a8 n8 c8 P.ey tk kv (.slice FX es.length FY) rv P.bytes from (by have h:=dZ.sets (zR C.id C.lim C.ro a8 n8 c8) gp;rw[tj] at h;exact h));have iq:=zh (((HR.out.below hb).slot C r8 g8).gK HO);have HDn:=zh (show fR _ B _ _ from g_.gK (HD.out.below hb) HO (by decide));have EW:=zh ((HX.out.below hb).eE (show b3≠b by omega) (zR C.id C.lim C.ro a8 n8 c8));have fV:=zh ((fc.of ((gH.out.trans (hb.mono (ak hz2 gH.out.size))).mono hz1) (ak hB hz2)).pts hlo (zR C.id C.lim C.ro a8 n8 c8) ⟨_,_,gp⟩ (by decide));have q0:=gp.cell (i:=0) rfl;have q1:=gp.cell (i:=1) rfl;have q2:=gp.cell (i:=2) rfl;have q3:=gp.cell (i:=3) rfl;have qf:=gp.frozen;clear r8 g8 hb gp HO
   generalize f 0=rI,f 1=rJ,f 2=pY,f 3=pZ,f 4=p_,f 5=q_,f 6=rK,f 7=B9,f 9=CQ,f 10=o6;clear f;change wpList _ _ _ (_::[]) _ _;go_wp2_with fail;go_meet
   case rel=>exact ⟨a8,n8,c8,L8,iW,iq,HDn,EW,fV⟩
  intro f w8 hb hd jw;clear jw;obtain ⟨a8,n8,c8,L8,d8,r8,g8⟩:=show ∃ a n c L,f 8=zO C.id C.lim C.ro a n c∧gB w8 B (.slice a n c) L∧ep L=C.dY from hd 8 (show 8<12 by decide) (show 8≠9 by decide);have d11:f 11=.pointer (some ⟨b,0,none⟩):=hd 11 (show 11<12 by decide) (show 11≠9 by decide);obtain ⟨a7,n7,c7,L7,d7,r7,g7⟩:=show ∃ a n c L,f 7=.tuple #[zO C.id C.lim C.ro a n c,.int .i64 ce]∧gB w8 B (.slice a n c) L∧ep L=C.dY from hd 7 (show 7<12 by decide) (show 7≠9 by decide);clear r7 g7
  try dsimp only
  rw[d7,d8,d11];clear hd d7 d8 d11;have gp:=HP.out.below hb;have HO:=gw.pts (T:=197) hlo ⟨_,_,gp⟩ (zR C.id C.lim C.ro a8 n8 c8);have iW:=zh (show AB _ b C.id C.lim C.ro a8 n8 c8 P.ey tk kv (.slice FX es.length FY) rv P.bytes from (by have h:=dZ.sets (zR C.id C.lim C.ro a8 n8 c8) gp;rw[tj] at h;exact h));have iq:=zh (((HR.out.below hb).slot C r8 g8).gK HO);have HDn:=zh (show fR _ B _ _ from g_.gK (HD.out.below hb) HO (by decide));have EW:=zh ((HX.out.below hb).eE (show b3≠b by omega) (zR C.id C.lim C.ro a8 n8 c8));have fV:=zh ((fc.of ((gH.out.trans (hb.mono (ak hz2 gH.out.size))).mono hz1) (ak hB hz2)).pts hlo (zR C.id C.lim C.ro a8 n8 c8) ⟨_,_,gp⟩ (by decide));have q0:=gp.cell (i:=0) rfl;have q1:=gp.cell (i:=1) rfl;have q2:=gp.cell (i:=2) rfl;have q3:=gp.cell (i:=3) rfl;have qf:=gp.frozen;clear r8 g8 hb gp HO
  generalize f 0=rI,f 1=rJ,f 2=pY,f 3=pZ,f 4=p_,f 5=q_,f 6=rK,f 9=CQ,f 10=o6;clear f;change wpList _ _ _ (_::_::[]) _ _;go_wp2_with fail;go_meet
  case rel=>exact ⟨a8,n8,c8,L8,iW,iq,HDn,EW,fV⟩
 obtain ⟨iI,iJ,gc',L',HP,HR,HD,HX,HB⟩:=hcut;generalize wc=v6 at *;have IF:B≤v6.heap.size:=ak (ak hB hz2) HB.out.size;have sJ:=zi (aj v6.heap.size v6);have Ah:v6.drew.heap.size=v6.heap.size:=rfl;have mZ:=zh (HP.out.below sJ);have nV:=zh (HX.out.below sJ);have jf:=zh (HR.out.below sJ);have Hj:=zh (show fR _ B _ _ from g_.below HD.out sJ);have eH:=zh (HB.out.step sJ IF);have jr:B≤v6.drew.heap.size:=ak IF sJ.size;clear sJ Ah HP HX HR HD HB;go_upto_region 7 with fail;obtain ⟨v60,Ob⟩:∃ v60,v6.drew=v60:=⟨_,rfl⟩
 rw[Ob] at mZ nV jf Hj eH jr;have UW:=mZ.out.cell (i:=9) rfl;have ew:=(aj v60.heap.size v60).alloc (ag _) (.cells #[.int .u64 xk,.int .u32 xq,.bool xd,.slice da dn dc] 56);have oh:=zh (mZ.out.below ew);have jW:=zh (jf.out.below ew);have Qm:=zh (show fR _ B _ _ from g_.below Hj.out ew);have mj:=zh (eH.out.step ew jr);have jO:=zh jW.out.n.row;have o7:B≤(v60.alloc (.cells #[.int .u64 xk,.int .u32 xq,.bool xd,.slice da dn dc] 56)).heap.size:=ak jr ew.size;have FV:=zh (fun W (hg:(v60.alloc (.cells #[.int .u64 xk,.int .u32 xq,.bool xd,.slice da dn dc] 56)).grownBy W (Value.slice FX es.length FY).ownBlock)=>oh.out.eY (fA.row jO.out hg (ag _)) (by decide));clear ew jf Hj eH
 refine vA 20 (fun L f' W=>pE [(0,.pointer (some ⟨b,0,none⟩)),(1,.pointer (some ⟨b,0,none⟩)),(2,.pointer (some ⟨b,0,none⟩)),(3,.pointer (some ⟨b,0,none⟩)),(4,.pointer (some ⟨b,4,none⟩)),(5,.pointer (some ⟨b,7,none⟩)),(6,.slice FX es.length FY),(7,.agg #[.int .u64 xk,.int .u32 xq,.bool xd,.slice da dn dc]),(10,.pointer (some ⟨b,0,none⟩)),(11,.pointer (some ⟨b,0,none⟩)),(12,.pointer (some ⟨b,9,none⟩)),(13,.int .i64 P.bytes),(14,.int .i64 (eN dn:Int)),(15,.int .i64 (P.bytes+(eN dn:Int))),(16,.pointer (some ⟨b,0,none⟩)),(17,.pointer (some ⟨b,4,none⟩)),(18,.pointer (some ⟨b,7,none⟩))] v60 b B 56 es.length (Value.slice FX es.length FY).ownBlock (xP es) [.int .u64 xk,.int .u32 xq,.bool xd,.slice da dn dc] (.int .i64 P.bytes) L f' W) 78 (by kernel_rfl) (by kernel_rfl) (by rfl) (by kernel_rfl) (fun f=>by simp[fF,zT,Act.put];exact rfl) (fun f=>by rw[Ob];exact pE.start UW f) ?_ ?_
 ·
  refine ⟨?_,?_,?_,?_,?_,?_,?_,?_,?_,?_,?_,?_,?_,?_,?_,?_,?_,?_,?_,?_,trivial⟩
  ·
   intro L f' w7 h0 hd hI;have fS:=zh hI;clear hI hd;dsimp only;go_wp2_with fail;exact ⟨rfl,(fun h=>by cases h),fun t ht=>by injection ht with ht;subst ht;exact fS.out.pure (v:=.pointer (some ⟨b,0,none⟩)) (by decide) (by decide) (by decide) (by simp)⟩
  ·
   intro L f' w7 h0 hd hI;have fS:=zh hI;clear hI hd;dsimp only;go_wp2_with fail;exact ⟨rfl,(fun h=>by cases h),fun t ht=>by injection ht with ht;subst ht;exact fS.out.pure (v:=.pointer (some ⟨b,0,none⟩)) (by decide) (by decide) (by decide) (by simp)⟩
  ·
   intro L f' w7 h0 hd hI;have fS:=zh hI;clear hI hd;dsimp only;go_wp2_with fail;exact ⟨rfl,(fun h=>by cases h),fun t ht=>by injection ht with ht;subst ht;exact fS.out.pure (v:=.pointer (some ⟨b,0,none⟩)) (by decide) (by decide) (by decide) (by simp)⟩
  ·
   intro L f' w7 h0 hd hI;have fS:=zh hI;have d2:f' 2=.pointer (some ⟨b,0,none⟩):=hI.jm (2,.pointer (some ⟨b,0,none⟩)) (by simp) (hd 2 (by kernel_rfl));clear hI hd;dsimp only;rw[d2];go_wp2_with fail;exact ⟨rfl,(fun h=>by cases h),fun t ht=>by injection ht with ht;subst ht;exact fS.out.pure (v:=.pointer (some ⟨b,0,none⟩)) (by decide) (by decide) (by decide) (by simp)⟩
  ·
   intro L f' w7 h0 hd hI;have fS:=zh hI;have d3:f' 3=.pointer (some ⟨b,0,none⟩):=hI.jm (3,.pointer (some ⟨b,0,none⟩)) (by simp) (hd 3 (by kernel_rfl));clear hI hd;dsimp only;rw[d3];go_wp2_with fail;exact ⟨rfl,(fun h=>by cases h),fun t ht=>by injection ht with ht;subst ht;exact fS.out.pure (v:=.pointer (some ⟨b,4,none⟩)) (by decide) (by decide) (by decide) (by simp)⟩
  ·
   intro L f' w7 h0 hd hI;have fS:=zh hI;have d4:f' 4=.pointer (some ⟨b,4,none⟩):=hI.jm (4,.pointer (some ⟨b,4,none⟩)) (by simp) (hd 4 (by kernel_rfl));clear hI hd;dsimp only;rw[d4];go_wp2_with fail;exact ⟨rfl,(fun h=>by cases h),fun t ht=>by injection ht with ht;subst ht;exact fS.out.pure (v:=.pointer (some ⟨b,7,none⟩)) (by decide) (by decide) (by decide) (by simp)⟩
  ·
   intro L f' w7 h0 hd hI;have fS:=zh hI;have d5:f' 5=.pointer (some ⟨b,7,none⟩):=hI.jm (5,.pointer (some ⟨b,7,none⟩)) (by simp) (hd 5 (by kernel_rfl));have q7:=(mZ.out.below (hI.early (hI.UT (.inl h0)))).cell (i:=7) rfl;clear hI hd;dsimp only;rw[d5];go_wp2_with fail;exact ⟨rfl,(fun h=>by cases h),fun t ht=>by injection ht with ht;subst ht;exact fS.out.pure (v:=.slice FX es.length FY) (by decide) (by decide) (by decide) (by simp)⟩
  ·
   intro L f' w7 h0 hd hI;have fS:=zh hI;have hx:=nV.out.below (hI.early (hI.UT (.inr (hI.no8 h0))));have n0:=hx.cell (i:=0) rfl;have n1:=hx.cell (i:=1) rfl;have n2:=hx.cell (i:=2) rfl;have n3:=hx.cell (i:=3) rfl;clear hx;clear hI hd;dsimp only;go_wp2_with fail;exact ⟨rfl,(fun h=>by cases h),fun t ht=>by injection ht with ht;subst ht;exact fS.out.pure (v:=.agg #[.int .u64 xk,.int .u32 xq,.bool xd,.slice da dn dc]) (by decide) (by decide) (by decide) (by simp)⟩
  ·
   intro L f' w7 h0 hd hI;have fS:=zh (hI.eight h0 (hd 7 (by kernel_rfl)) (by simp));have d7:f' 7=.agg #[.int .u64 xk,.int .u32 xq,.bool xd,.slice da dn dc]:=hI.jm (7,.agg #[.int .u64 xk,.int .u32 xq,.bool xd,.slice da dn dc]) (by simp) (hd 7 (by kernel_rfl));clear hI hd;dsimp only;rw[d7];go_wp2_with fail;exact ⟨rfl,(fun h=>by cases h),fun t ht=>by injection ht with ht;subst ht;exact fS.out⟩
  ·
   intro L f' w7 h0 hd hI;have d6:f' 6=.slice FX es.length FY:=hI.jm (6,.slice FX es.length FY) (by simp) (hd 6 (by kernel_rfl));obtain ⟨hW,e8,hk⟩:=hI.app (hd 8 (by kernel_rfl)) (hd 6 (by kernel_rfl)) h0 (by simp);subst hW;have HK:=zh hk;clear hI hd hk;dsimp only;rw[d6,e8];refine zP (n:=es.length) (m:=1) rfl (.tmp 63) (.tmp 65) 23 rfl Ts B rfl jO.out rfl (Rd.new v60 4 [.int .u64 xk,.int .u32 xq,.bool xd,.slice da dn dc] 56 1 rfl (by decide)) (fun u hu=>by simp only[aX,aY,aZ] at hu;rcases hu with h|h|h|h<;>rw[h]<;>rfl) (by unfold maxLen;omega) (by omega) o7 ?_;intro v' w8 hown' Dk _;obtain ⟨lJ,lK,hv2,_,_,_⟩:=zH hown';subst hv2;have HQ:=zh (HK.out _ _ _ hown' Dk ((FV.out _ Dk).cell (i:=9) rfl));exact ⟨rfl,(fun h=>by cases h),fun t ht=>by injection ht with ht;subst ht;exact HQ.out⟩
  ·
   intro L f' w7 h0 hd hI;have fS:=zh hI;clear hI hd;dsimp only;go_wp2_with fail;exact ⟨rfl,(fun h=>by cases h),fun t ht=>by injection ht with ht;subst ht;exact fS.out.pure (v:=.pointer (some ⟨b,0,none⟩)) (by decide) (by decide) (by decide) (by simp)⟩
  ·
   intro L f' w7 h0 hd hI;have fS:=zh hI;have d10:f' 10=.pointer (some ⟨b,0,none⟩):=hI.jm (10,.pointer (some ⟨b,0,none⟩)) (by simp) (hd 10 (by kernel_rfl));clear hI hd;dsimp only;rw[d10];go_wp2_with fail;exact ⟨rfl,(fun h=>by cases h),fun t ht=>by injection ht with ht;subst ht;exact fS.out.pure (v:=.pointer (some ⟨b,0,none⟩)) (by decide) (by decide) (by decide) (by simp)⟩
  ·
   intro L f' w7 h0 hd hI;have fS:=zh hI;have d11:f' 11=.pointer (some ⟨b,0,none⟩):=hI.jm (11,.pointer (some ⟨b,0,none⟩)) (by simp) (hd 11 (by kernel_rfl));clear hI hd;dsimp only;rw[d11];go_wp2_with fail;exact ⟨rfl,(fun h=>by cases h),fun t ht=>by injection ht with ht;subst ht;exact fS.out.pure (v:=.pointer (some ⟨b,9,none⟩)) (by decide) (by decide) (by decide) (by simp)⟩
  ·
   intro L f' w7 h0 hd hI;have fS:=zh hI;have d12:f' 12=.pointer (some ⟨b,9,none⟩):=hI.jm (12,.pointer (some ⟨b,9,none⟩)) (by simp) (hd 12 (by kernel_rfl));have c9:=hI.c9;clear hI hd;dsimp only;rw[d12];go_wp2_with fail;exact ⟨rfl,(fun h=>by cases h),fun t ht=>by injection ht with ht;subst ht;exact fS.out.pure (v:=.int .i64 P.bytes) (by decide) (by decide) (by decide) (by simp)⟩
  ·
   intro L f' w7 h0 hd hI;have fS:=zh hI;clear hI hd;dsimp only;go_wp2_with fail;exact ⟨rfl,(fun h=>by cases h),fun t ht=>by injection ht with ht;subst ht;exact fS.out.pure (v:=.int .i64 (eN dn:Int)) (by decide) (by decide) (by decide) (by simp)⟩
  ·
   intro L f' w7 h0 hd hI;have fS:=zh hI;have d13:f' 13=.int .i64 P.bytes:=hI.jm (13,.int .i64 P.bytes) (by simp) (hd 13 (by kernel_rfl));have d14:f' 14=.int .i64 (eN dn:Int):=hI.jm (14,.int .i64 (eN dn:Int)) (by simp) (hd 14 (by kernel_rfl));have j0:=hby.1;have j1:=hby.2;have j2:=Dv;clear hI hd;dsimp only;rw[d13];rw[d14];go_wp2_with fail;exact ⟨rfl,(fun h=>by cases h),fun t ht=>by injection ht with ht;subst ht;exact fS.out.pure (v:=.int .i64 (P.bytes+(eN dn:Int))) (by decide) (by decide) (by decide) (by simp)⟩
  ·
   intro L f' w7 h0 hd hI;have fS:=zh hI;have d0:f' 0=.pointer (some ⟨b,0,none⟩):=hI.jm (0,.pointer (some ⟨b,0,none⟩)) (by simp) (hd 0 (by kernel_rfl));clear hI hd;dsimp only;rw[d0];go_wp2_with fail;exact ⟨rfl,(fun h=>by cases h),fun t ht=>by injection ht with ht;subst ht;exact fS.out.pure (v:=.pointer (some ⟨b,0,none⟩)) (by decide) (by decide) (by decide) (by simp)⟩
  ·
   intro L f' w7 h0 hd hI;have fS:=zh hI;have d16:f' 16=.pointer (some ⟨b,0,none⟩):=hI.jm (16,.pointer (some ⟨b,0,none⟩)) (by simp) (hd 16 (by kernel_rfl));clear hI hd;dsimp only;rw[d16];go_wp2_with fail;exact ⟨rfl,(fun h=>by cases h),fun t ht=>by injection ht with ht;subst ht;exact fS.out.pure (v:=.pointer (some ⟨b,4,none⟩)) (by decide) (by decide) (by decide) (by simp)⟩
  ·
   intro L f' w7 h0 hd hI;have fS:=zh hI;have d17:f' 17=.pointer (some ⟨b,4,none⟩):=hI.jm (17,.pointer (some ⟨b,4,none⟩)) (by simp) (hd 17 (by kernel_rfl));clear hI hd;dsimp only;rw[d17];go_wp2_with fail;exact ⟨rfl,(fun h=>by cases h),fun t ht=>by injection ht with ht;subst ht;exact fS.out.pure (v:=.pointer (some ⟨b,7,none⟩)) (by decide) (by decide) (by decide) (by simp)⟩
  intro L f' w7 h0 hd hI;have d18:f' 18=.pointer (some ⟨b,7,none⟩):=hI.jm (18,.pointer (some ⟨b,7,none⟩)) (by simp) (hd 18 (by kernel_rfl));obtain ⟨oa,oc,e9,hg,hk⟩:=hI.store (hd 9 (by kernel_rfl)) h0 (by simp);have HK:=zh hk;have hp:=FV.out _ hg;have c7:=hp.cell (i:=7) rfl;have f7:=hp.frozen 7;clear hI hd hk hp hg;dsimp only;rw[e9,d18];go_wp2_with fail;exact ⟨rfl,(fun _ v=>HK.out v),fun t ht=>by cases ht⟩
 intro L f' w7 hA hI;obtain ⟨oa,oc,Wa,e9,hown,hg,hW⟩:=hI.s2 (hA 9 (by decide));rw[hA 19 (by decide),ah rfl] at hW;subst hW;have d1:f' 1=.pointer (some ⟨b,0,none⟩):=hI.jm (1,.pointer (some ⟨b,0,none⟩)) (by simp) (hA 1 (by decide));have d15:f' 15=.int .i64 (P.bytes+(eN dn:Int)):=hI.jm (15,.int .i64 (P.bytes+(eN dn:Int))) (by simp) (hA 15 (by decide));clear hI hA;have hp:=FV.out _ hg;have Hl:AB (Wa.setCell ⟨b,7,none⟩ (.slice oa (es.length+1) oc)) b C.id C.lim C.ro iI iJ gc' P.ey tk kv (.slice oa (es.length+1) oc) rv P.bytes:=(by have h:=hp.set 7 (.slice oa (es.length+1) oc);rw[zLx] at h;exact h)
 have hO7:gw Wa (Wa.setCell ⟨b,7,none⟩ (.slice oa (es.length+1) oc)) B b 197:=gw.pts hlo ⟨_,_,hp⟩ [(7,.slice oa (es.length+1) oc)];have hR7:=(jW.out.need x (.slice da dn dc) Qm.out hg (by rw[Ig.out];exact hown)).gK hO7;have NN:=(mj.out.own jO.out o7 hg (by decide)).pts hlo [(7,.slice oa (es.length+1) oc)] ⟨_,_,hp⟩ (by decide);change fc B w (Wa.setCell ⟨b,7,none⟩ (.slice oa (es.length+1) oc)) at NN;have gO:AB ((Wa.setCell ⟨b,7,none⟩ (.slice oa (es.length+1) oc)).setCell ⟨b,9,none⟩ (.int .i64 (P.bytes+(eN dn:Int)))) b C.id C.lim C.ro iI iJ gc' P.ey tk kv (.slice oa (es.length+1) oc) rv (P.bytes+(eN dn:Int)):=(by have h:=Hl.set 9 (.int .i64 (P.bytes+(eN dn:Int)));rw[zLz] at h;exact h)
 have Bv:=hR7.gK (gw.pts hlo ⟨_,_,Hl⟩ [(9,.int .i64 (P.bytes+(eN dn:Int)))]);have i_:=zh (NN.pts hlo [(9,.int .i64 (P.bytes+(eN dn:Int)))] ⟨_,_,Hl⟩ (by decide))
 have HM9:=zh (show l7 ((Wa.setCell ⟨b,7,none⟩ (.slice oa (es.length+1) oc)).setCell ⟨b,9,none⟩ (.int .i64 (P.bytes+(eN dn:Int)))) B b tk P1 from by
  rw[oZ.out,Ui.out]
  exact ⟨iI,iJ,gc',L',kv,ks,_,_,rv,hlo,gO,⟨Bv.g,Bv.gg,Bv.k,Bv.kk,Bv.n,Bv.nn,Bv.r⟩⟩)
 have c9:=Hl.cell (i:=9) rfl;have f9:=Hl.frozen 9;clear hp Hl hO7 hR7 NN gO Bv hown hg e9
 try dsimp only
 rw[d1,d15];clear d1 d15;generalize f' 0=rI,f' 2=pY,f' 3=pZ,f' 4=p_,f' 5=q_,f' 6=rK,f' 7=B9,f' 8=Lf,f' 9=CQ,f' 10=o6,f' 11=JZ,f' 12=UX,f' 13=NU,f' 14=J1,f' 16=ake,f' 17=akf,f' 18=akg;clear f';go_wp2_with fail;go_ret;exact ⟨rfl,HM9.out,i_.out⟩
end Go.Proofs.YtcgfilmmokmdjaaGreat
