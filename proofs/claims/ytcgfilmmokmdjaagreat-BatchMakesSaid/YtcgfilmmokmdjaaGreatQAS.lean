import Derived.Test.YtcgfilmmokmdjaaGreatQAR
import Derived.Test.YtcgfilmmokmdjaaGreatQAG
import Derived.Test.YtcgfilmmokmdjaaGreatQAL
import Derived.Test.YtcgfilmmokmdjaaGreatBe
import Derived.Test.YtcgfilmmokmdjaaGreatQAM
import Derived.Test.YtcgfilmmokmdjaaGreatQAP
import Derived.RangeFuncNested
import Derived.Test.YtcgfilmmokmdjaaGreatQAQ
set_option linter.all false
set_option maxRecDepth 100000
set_option maxHeartbeats 32000000
namespace Go.Proofs.YtcgfilmmokmdjaaGreat
open Go.RowKit
theorem qz {ks:List KP} {i:Nat} (hi:i≤ks.length):(ks.flatMap gU).take (i*2)=(ks.take i).flatMap gU∧(ks.flatMap gU).drop (i*2)=(ks.drop i).flatMap gU:=by
 have e:ks.flatMap gU=(ks.take i).flatMap gU++(ks.drop i).flatMap gU:=by rw[← b7,b9]
 have hl:((ks.take i).flatMap gU).length=i*2:=by rw[yR 2 gU _ (fun x _=>xK x),ay,bW hi]
 rw[e];exact ⟨cL hl,List.drop_left' hl⟩
theorem iu.ins {W W':World} {B:Nat} {v v':Value} {ks:List KP} (h:iu W B v ks) {i:Nat} (hi:i≤ks.length) (num:Int)
  (ho:W'.ownsRow B 89 2 v' (ks.length+1) ((ks.flatMap gU).take (i*2)++gU (num,.slice none 0 0,[])++(ks.flatMap gU).drop (i*2))) (hg:W.grownBy W' v.ownBlock) :
  iu W' B v' (ks.take i++(num,.slice none 0 0,[])::ks.drop i):=by
 have hO:=fA.row h.row hg (ag B);obtain ⟨e1,e2⟩:=qz hi;have hmem:∀ p∈ks.take i++(num,.slice none 0 0,[])::ks.drop i,p∈ks∨p=(num,.slice none 0 0,[]):=fun p hp=>by
  rcases List.mem_append.1 hp with hp|hp
  ·
   exact .inl (bT hp)
  rcases List.mem_cons.1 hp with rfl|hp
  ·
   exact .inr rfl
  exact .inl (cN hp)
 refine ⟨?_,fun p hp=>?_,?_⟩
 ·
  have el:(ks.take i++(num,.slice none 0 0,[])::ks.drop i).length=ks.length+1:=by
   rw[aw,aV,ay,aP];omega
  have ef:(ks.take i++(num,.slice none 0 0,[])::ks.drop i).flatMap gU=(ks.flatMap gU).take (i*2)++gU (num,.slice none 0 0,[])++(ks.flatMap gU).drop (i*2):=by
   rw[b7,ct,e1,e2,bt]
  rw[el,ef];exact ho
 ·
  rcases hmem p hp with hp|rfl
  ·
   exact yN (h.keys p hp) hO (by decide)
  exact aT _ _ _ _
 rw[List.pairwise_append,dC];refine ⟨h.apart.sublist (List.take_sublist _ _),⟨fun y _=>.inl rfl,h.apart.sublist (List.drop_sublist _ _)⟩,fun x hx y hy=>?_⟩;rcases List.mem_cons.1 hy with rfl|hy
 ·
  by_cases e:x.2.1.ownBlock=none
  ·
   exact .inl e
  exact .inr e
 have e:ks=ks.take i++ks.drop i:=(b9 i ks).symm;have:=h.apart;rw[e,List.pairwise_append] at this;exact this.2.2 x hx y hy
theorem uk {l:List KP} {i:Nat} (h:i<l.length):l[i]=gY l i:=by
 unfold gY;rw[ax,aB h];rfl
theorem iu.put {W W1:World} {B g n cap k:Nat} {ks:List KP} (h:iu W B (.slice (some ⟨g,0,none⟩) n cap) ks) (hk:k<ks.length) {num:Int} (gT:(gY ks k).1=num) {v2:Value} {l2:List Int}
  (ho:W1.ownsRow B 24 1 v2 l2.length (l2.map Eh)) (hg:W.grownBy W1 (gY ks k).2.1.ownBlock) (hat:v2.ownBlock=(gY ks k).2.1.ownBlock∨v2.ownBlock=some W.heap.size) :
  iu (W1.setCell ⟨g,k*2+1,none⟩ v2) B (.slice (some ⟨g,0,none⟩) n cap) (ks.set k (num,v2,l2))∧gw W1 (W1.setCell ⟨g,k*2+1,none⟩ v2) B g 89:=by
 have hlen:n=ks.length:=by
  rcases h.row.2 with ⟨e,_⟩|⟨_,_,_,e,_⟩
  ·
   cases e
  injection e
 have hO:=fA.row (h.keys _ (uK hk)) hg (ag B);have nI:W1.ownsRow B 89 2 (.slice (some ⟨g,0,none⟩) n cap) ks.length (ks.flatMap gU):=yN h.row hO (by decide);have hgB:B≤g:=(nI.lt g rfl).1;have hty:=Lib.ownsRow_kind nI g rfl;have Ca:gw W1 (W1.setCell ⟨g,k*2+1,none⟩ v2) B g 89:=gw.pts hgB hty [(k*2+1,v2)];refine ⟨⟨?_,fun p hp=>?_,?_⟩,Ca⟩
 ·
  subst hlen;have h1:=(nI.stored (k*2) (.int .i64 num)).1;have hsame:(ks.flatMap gU).set (k*2) (.int .i64 num)=ks.flatMap gU:=by
   refine List.ext_getElem? fun j=>?_
   rw[dB]
   by_cases e:k*2=j
   ·
    subst e;rw[ah rfl];have hl:(ks.flatMap gU).length=ks.length*2:=yR 2 gU _ (fun x _=>xK x);rw[ah (by omega)];have h2:=vW 2 gU (0,.slice none 0 0,[]) ks (fun x _=>xK x) k 0 hk (by decide);rw[bB] at h2;rw[h2];rw[← gT]
    rfl
   rw[ai e]
  have h3:=(nI.stored (k*2+1) v2).1;have h4:=TH 2 gU xK ks k hk (num,v2,l2);have h5:JQ (ks.flatMap gU) (k*2) (gU (num,v2,l2))=(ks.flatMap gU).set (k*2+1) v2:=by
   show ((ks.flatMap gU).set (k*2) (.int .i64 num)).set (k*2+1) v2=_
   rw[hsame]
  rw[← h5,h4] at h3;rw[a_];exact h3
 ·
  rcases List.mem_iff_getElem.1 hp with ⟨j,hj,rfl⟩;rw[a_] at hj;rw[dJ]
  split
  ·
   exact yp ho Ca (by decide)
  rename_i hne;have hap:(ks[j]).2.1.ownBlock=none∨(ks[j]).2.1.ownBlock≠(gY ks k).2.1.ownBlock:=by
   rw[← uk hk];rcases Nat.lt_or_gt_of_ne hne with h1|h1
   ·
    rcases List.pairwise_iff_getElem.1 h.apart k j hk hj h1 with h2|h2
    ·
     by_cases e:(ks[j]).2.1.ownBlock=none
     ·
      exact .inl e
     exact .inr (by rw[h2];exact e)
    exact .inr h2.symm
   exact List.pairwise_iff_getElem.1 h.apart j k hj hk h1
  exact yp (World.ownsRow.kept (h.keys _ (bI hj)) hg hap) Ca (by decide)
 have hlt:∀ j (hj:j<ks.length) x,(ks[j]).2.1.ownBlock=some x→x<W.heap.size:=fun j hj x hx=>((h.keys _ (bI hj)).lt x hx).2
 rw[List.pairwise_iff_getElem];intro i j hi hj hij;rw[a_] at hi hj;have hap:=List.pairwise_iff_getElem.1 h.apart i j hi hj hij;rw[dJ,dJ]
 split
 ·
  rename_i e1;subst e1
  split
  ·
   omega
  show v2.ownBlock=none∨v2.ownBlock≠(ks[j]).2.1.ownBlock
  rcases hat with hat|hat
  ·
   rw[hat,← uk hk];exact hap
  rw[hat];exact .inr fun e=>by have:=hlt j hj _ e.symm;omega
 split
 ·
  rename_i e1 e2;subst e2
  show (ks[i]).2.1.ownBlock=none∨(ks[i]).2.1.ownBlock≠v2.ownBlock
  rcases hat with hat|hat
  ·
   rw[hat,← uk hk];exact hap
  rw[hat];exact .inr fun e=>by have:=hlt i hi _ e;omega
 exact hap
end Go.Proofs.YtcgfilmmokmdjaaGreat
namespace Go.Proofs.YtcgfilmmokmdjaaGreat
open Go.RowKit
theorem zJ2 {ks:List KP} {l:List Kl} {num key:Int} {I:Nat} (e:iM ks=l) (hI:gJ l num=I) (h:I<l.length∧(yq l I).1=num) :
  I<ks.length∧(gY ks I).1=num∧(iM ks).set I (num,(gY ks I).2.2++[key])=kL l num key:=by
 subst e hI;have h1:=zDs (key:=key) h;have h2:=NP (l:=ks) (gJ (iM ks) num);refine ⟨by rw[← xX];exact h.1,by have:=h.2;rw[h2] at this;exact this,?_⟩;rw[h1,h2]
theorem zKQ {ks:List KP} {l:List Kl} {num key:Int} {I:Nat} (e:iM ks=l) (hI:gJ l num=I) (h:¬ (I<l.length∧(yq l I).1=num)) :
  I<(ks.take I++(num,.slice none 0 0,[])::ks.drop I).length∧gY (ks.take I++(num,.slice none 0 0,[])::ks.drop I) I=(num,.slice none 0 0,[]) ∧
   (iM (ks.take I++(num,.slice none 0 0,[])::ks.drop I)).set I (num,[]++[key])=kL l num key:=by
 subst e hI;have h1:=k9 (key:=key) h;have hle:gJ (iM ks) num≤ks.length:=by rw[← xX];exact Qn _ _
 have ht:(ks.take (gJ (iM ks) num)).length=gJ (iM ks) num:=by rw[ay];omega
 refine ⟨?_,?_,?_⟩
 ·
  rw[aw,aV,ht];omega
 ·
  unfold gY;rw[ax,dS (by rw[ht];exact ag _),ht,Nat.sub_self]
  rfl
 rw[h1];unfold iM;rw[bD,List.map_cons,List.map_take,List.map_drop,List.set_append_right _ _ (by rw[ay,aH];omega)]
 rw[show gJ (List.map (fun p:KP=>(p.1,p.2.2)) ks) num-((ks.map fun p=>(p.1,p.2.2)).take (gJ (List.map (fun p:KP=>(p.1,p.2.2)) ks) num)).length=0 by
  rw[ay,aH]
  have:gJ (List.map (fun p:KP=>(p.1,p.2.2)) ks) num≤ks.length:=hle
  omega]
 rfl
theorem zGN (ks:List KP) (k:Nat) (num:Int) (v:Value) (l:List Int):iM (ks.set k (num,v,l))=(iM ks).set k (num,l):=by
 unfold iM;rw[List.map_set]
section
variable {W W1:World} {B b:Nat} {P:fB} {ga:Option Addr} {gn gc:Nat} {L:List GP} {kv rh:Value} {ks nO:List KP} {nv:Value} {es:List (Nd×Value)} {rv:Value}
theorem mo.eu (h:mo W B P ga gn gc L kv ks nv es rv) (hk:iu W B rh nO):mo W B {P with eu:=iM nO} ga gn gc L rh nO nv es rv:=⟨h.g,h.gg,hk,rfl,h.n,h.nn,h.r⟩
theorem mo.Ut (h:mo W B P ga gn gc L kv ks nv es rv) (hO:fA W W1 B 89) (hk:iu W1 B rh nO):mo W1 B {P with eu:=iM nO} ga gn gc L rh nO nv es rv:=
 ⟨h.g.eY hO (by decide) (by decide),h.gg,hk,rfl,h.n.eY hO (by decide) (by decide),h.nn,yN h.r hO (by decide)⟩
theorem mo.put {g n cap k:Nat} (h:mo W B P ga gn gc L (.slice (some ⟨g,0,none⟩) n cap) ks nv es rv) (hk:k<ks.length) {num:Int} (gT:(gY ks k).1=num) {v2:Value} {l2:List Int}
  (ho:W1.ownsRow B 24 1 v2 l2.length (l2.map Eh)) (hg:W.grownBy W1 (gY ks k).2.1.ownBlock) (hat:v2.ownBlock=(gY ks k).2.1.ownBlock∨v2.ownBlock=some W.heap.size) :
  mo (W1.setCell ⟨g,k*2+1,none⟩ v2) B {P with eu:=(iM ks).set k (num,l2)} ga gn gc L (.slice (some ⟨g,0,none⟩) n cap) (ks.set k (num,v2,l2)) nv es rv∧fA W W1 B 24∧gw W1 (W1.setCell ⟨g,k*2+1,none⟩ v2) B g 89:=by
 obtain ⟨h1,h2⟩:=h.k.put hk gT ho hg hat;have hO:fA W W1 B 24:=fA.row (h.k.keys _ (uK hk)) hg (ag B);have Ca:fA W1 (W1.setCell ⟨g,k*2+1,none⟩ v2) B 89:=.inr ⟨g,h2⟩;refine ⟨⟨(h.g.eY hO (by decide) (by decide)).eY Ca (by decide) (by decide),h.gg,h1,zGN _ _ _ _ _,(h.n.eY hO (by decide) (by decide)).eY Ca (by decide) (by decide),h.nn,yN (yN h.r hO (by decide)) Ca (by decide)⟩,hO,h2⟩
end
theorem zDh (W:World) (x:Int) (k:Nat) (hk:W.heap.size=k):∀ j u,[Value.int .u64 x][j]?=some u→(World.drew (W.alloc (.cells #[.int .u64 x] 24))).cell? ((⟨k,0,none⟩:Addr).add j)=some u:=by
 subst hk;intro j u hj;rw[yM,aI]
 show (W.alloc (.cells #[.int .u64 x] 24)).cell? _=some u
 rw[cell_of_row _ _ j _ _ (0,0) (dg W _)];rw[← Array.getElem?_toList];exact hj
theorem zLB {W:World} {B:Nat} {a:Option Addr} {n cap:Nat} {ks:List KP} (h:iu W B (.slice a n cap) ks) {k:Nat} (hk:k<ks.length):∃ g,a=some ⟨g,0,none⟩∧n=ks.length∧B≤g∧g<W.heap.size∧W.cell? ⟨g,k*2+1,none⟩=some (gY ks k).2.1:=by
 have hr:mY W (.slice a n cap) ks:=⟨fun x _=>xK x,zk h.row⟩
 have hn:=hr.len;obtain ⟨b,off,e,_,hc⟩:=hr.at (j:=k) (by omega);rcases h.row.2 with ⟨e2,_⟩|⟨g,c,cur,e2,hB,hg,_⟩
 ·
  cases e2;cases e
 injection e2 with e2 e3 e4;rw[e] at e2;injection e2 with e2;injection e2 with e2 e5;subst e2 e5;refine ⟨b,e,e3,hB,(Array.getElem?_eq_some_iff.1 hg).1,?_⟩;rw[aI] at hc;exact hc
end Go.Proofs.YtcgfilmmokmdjaaGreat
namespace Go.Proofs.YtcgfilmmokmdjaaGreat
open Go.RowKit Go.Shelf
attribute [local go_sem] Oper.semAt_some
abbrev Uu (x:jK):Value:=.agg #[.int .i64 x.gen,.int .i64 x.mode,.int .i64 x.rev,.int .u64 x.it.key,.int .u32 x.it.ck,.int .i64 x.it.off,.int .i64 x.it.size,.int .i64 (x.at_:Int)]
structure IP (W:World) (b o:Nat) (x:jK):Prop where
 c0:W.cell? ⟨b,o,none⟩=some (.int .i64 x.gen)
 c1:W.cell? ⟨b,o+1,none⟩=some (.int .i64 x.mode)
 c2:W.cell? ⟨b,o+2,none⟩=some (.int .i64 x.rev)
 c3:W.cell? ⟨b,o+3,none⟩=some (.int .u64 x.it.key)
 c4:W.cell? ⟨b,o+4,none⟩=some (.int .u32 x.it.ck)
 c5:W.cell? ⟨b,o+5,none⟩=some (.int .i64 x.it.off)
 c6:W.cell? ⟨b,o+6,none⟩=some (.int .i64 x.it.size)
 c7:W.cell? ⟨b,o+7,none⟩=some (.int .i64 (x.at_:Int))
theorem IP.below {W W':World} {b o:Nat} {x:jK} (h:IP W b o x) (hb:Below W.heap.size W W'):IP W' b o x:=⟨hb.keeps' h.c0,hb.keeps' h.c1,hb.keeps' h.c2,hb.keeps' h.c3,hb.keeps' h.c4,hb.keeps' h.c5,hb.keeps' h.c6,hb.keeps' h.c7⟩
def mq (l:List jK) (i:Nat):jK:=l.getD i yU
theorem GV.at {w:World} {a:Option Addr} {n c:Nat} {l:List jK} (h:GV w (.slice a n c) l):n=l.length∧(0<n→∃ b off,a=some ⟨b,off,none⟩∧∀ j,j<n→IP w b (off+j*8) (mq l j)):=by
 obtain ⟨a',cap',e,_,_,_,h5⟩:=iN.shape h (by decide) yU;injection e with e1 e2 e3;subst e1 e2 e3;refine ⟨rfl,fun hp=>?_⟩;obtain ⟨b,off,e,hc⟩:=h5 hp;refine ⟨b,off,e,fun j hj=>?_⟩;have g:=fun i u hu=>hc j hj i u hu
 exact ⟨by have:=g 0 _ rfl;simpa [cR,mq] using this,by have:=g 1 _ rfl;simpa [cR,mq] using this,by have:=g 2 _ rfl;simpa [cR,mq] using this,by have:=g 3 _ rfl;simpa [cR,mq] using this,by have:=g 4 _ rfl;simpa [cR,mq] using this,by have:=g 5 _ rfl;simpa [cR,mq] using this,by have:=g 6 _ rfl;simpa [cR,mq] using this,by have:=g 7 _ rfl;simpa [cR,mq] using this⟩
def Ac (b Bs:Nat) (W W':World):Prop:=∀ p:Addr,(p.block=b∨p.block=Bs)→∀ v,W.cell? p=some v→W'.cell? p=some v
theorem Ac.refl (b Bs:Nat) (W:World):Ac b Bs W W:=fun _ _ _ h=>h
theorem Ac.trans {b Bs:Nat} {A B C:World} (h:Ac b Bs A B) (k:Ac b Bs B C):Ac b Bs A C:=fun p hp v hv=>k p hp v (h p hp v hv)
theorem Ac.put {b Bs:Nat} {w:World} (hb:b<w.heap.size) (hB:Bs<w.heap.size) (W:World) (l:Nat) (o o':Obj) (hl:w.heap.size≤l) (h:W.heap[l]?=some o) (h1:o.isCells=false) (h2:o.isWalk=false):Ac b Bs W (W.putObj l o'):=fun p hp v hv =>
 ((belowK_b (n₀:=p.block+1) (w:=w) (by rcases hp with e|e<;>omega) W l o o' hl h h1 h2).cell (p:=p) (dD _)).trans hv
theorem Ac.below {b Bs:Nat} {W W':World} (h:Below W.heap.size W W'):Ac b Bs W W':=fun _ _ _ hv=>h.keeps' hv
theorem zHO (F:Fence) (n:Nat) (hf:F.fn 211) (hro:F.round=none) (hn:1≤n) (l Bs b off len cap:Nat) (a:Option Addr) (ha:0<len→a=some ⟨b,off,none⟩) (L:List jK) (hlen:len≤8) (J Jx:List Nat→World→Prop)
  (hY:∀ pre (x:Nat) W,J pre W→pre.length<len→YieldAt F (n-1) Tryz.prog l #[.int .i64 (x:Int),Uu (mq L x)] W fun e W' =>
   (e=.returned (.bool true)∧J (pre++[x]) W'∧Ac b Bs W W')∨(e=.returned (.bool false)∧Jx (pre++[x]) W'))
  (W:World) (FL:W.cell? ⟨Bs,0,none⟩=some (.slice a len cap)) (hc:∀ j,j<len→IP W b (off+j*8) (mq L j)) (h0:J [] W) :
  CallsIn F n Tryz.prog 211 #[.func (.yield l) #[] #[],.pointer (some ⟨Bs,0,none⟩)] W fun e W'=>(∃ v,e=.returned v) ∧
   ((∃ ys,ys=yx len len∧J ys W')∨(∃ pre,(∃ k,k≤len∧pre=yx len k)∧Jx pre W')):=by
 refine callsIn_of_wp Tryz.func211 rfl hf ?_ hro;simp only[Tryz.ntmps211,cu,aV,dI,Nat.reduceAdd,Nat.reduceSub,Array.replicate_succ,Array.replicate_zero,List.push_toArray,List.append_toArray,bQ,List.cons_append]
 gi_wp2
 gi_loopw [3] (fun i wr=>∃ k:Nat,k≤len∧i=.int .i64 ((len:Int)-1-(k:Int))∧J (yx len k) wr∧Ac b Bs W wr)
  (fun i _=>(intOf i+1).toNat)
 case atStart=>exact ⟨0,aq _,by simp[aF _ (show -9223372036854775808≤(len:Int)-1∧(len:Int)-1≤9223372036854775807 by omega)],h0,Ac.refl _ _ _⟩
 obtain ⟨k,hk,rfl,hJs,n_⟩:=hrel;have Nq:=n_ ⟨Bs,0,none⟩ (.inr rfl) _ FL
 by_cases hlt:k<len
 ·
  obtain ⟨j,hj⟩:∃ j,k+1+j=len:=⟨len-1-k,by omega⟩
  have hjk:len-1-k=j:=by omega
  obtain ⟨fn,tmps,assign,body,hy,hR⟩:=hY _ (len-1-k) wr hJs (by rw[wy];exact hlt);have ej:(len:Int)-1-(k:Int)=(j:Int):=by omega
  rw[ej];rw[hjk] at hy hR;have i2:(j:Int)<(len:Int):=by omega
  have ha':=ha (by omega);subst ha';have g0:=n_ ⟨b,off+j*8,none⟩ (.inl rfl) _ (hc j (by omega)).c0;have g1:=n_ ⟨b,off+j*8+1,none⟩ (.inl rfl) _ (hc j (by omega)).c1;have g2:=n_ ⟨b,off+j*8+2,none⟩ (.inl rfl) _ (hc j (by omega)).c2;have g3:=n_ ⟨b,off+j*8+3,none⟩ (.inl rfl) _ (hc j (by omega)).c3;have g4:=n_ ⟨b,off+j*8+4,none⟩ (.inl rfl) _ (hc j (by omega)).c4;have g5:=n_ ⟨b,off+j*8+5,none⟩ (.inl rfl) _ (hc j (by omega)).c5;have g6:=n_ ⟨b,off+j*8+6,none⟩ (.inl rfl) _ (hc j (by omega)).c6;have g7:=n_ ⟨b,off+j*8+7,none⟩ (.inl rfl) _ (hc j (by omega)).c7
  gi_wp2
  refine hR.mono ?_;rintro e W3 (⟨rfl,hJ3,hk3⟩|⟨rfl,hJx3⟩)
  ·
   gi_wp2
   go_roundw
   case rel=>exact ⟨k+1,by omega,by first|(simp;done)|(simp;omega),by rw[uJ,hjk];exact hJ3,n_.trans hk3⟩
   case measure=>first|(simp[intOf];done)|(simp[intOf];omega)
  gi_wp2
  refine au (results_none rfl _ _ _) rfl ?_;exact ⟨⟨_,rfl⟩,.inr ⟨_,⟨k+1,by omega,by rw[uJ,hjk]⟩,hJx3⟩⟩
 obtain rfl:k=len:=by omega
 have ej:(k:Int)-1-(k:Int)=-1:=by omega
 rw[ej]
 gi_wp2
 go_end0;exact ⟨⟨_,rfl⟩,.inl ⟨_,rfl,hJs⟩⟩
theorem zB1 (a:Option Addr) (n c:Nat) (w:World):Calls Tryz.prog 200 #[.slice a n c] w fun e w'=>e=.returned (.func (.func 211) #[] #[.pointer (some ⟨w.heap.size,0,none⟩)])∧w'=w.alloc (.cells #[.slice a n c] 135):=by
 go_enter Tryz.func200,Tryz.ntmps200
 go_wp2_with fail;go_ret;exact ⟨rfl,rfl⟩
theorem zEF (F:Fence) (n:Nat) (hf:F.fn 211) (hro:F.round=none) (hn:1≤n) (Bs b off len cap:Nat) (a:Option Addr) (ha:0<len→a=some ⟨b,off,none⟩) (L:List jK) (hlen:len≤8) (w:World)
  (FL:w.cell? ⟨Bs,0,none⟩=some (.slice a len cap)) (hc:∀ j,j<len→IP w b (off+j*8) (mq L j)) :
  SeqStopsK F n Tryz.prog 211 #[.pointer (some ⟨Bs,0,none⟩)] (fun x:Nat=>#[.int .i64 (x:Int),Uu (mq L x)]) (Ac b Bs) (fun ys=>ys=yx len len) (fun pre=>∃ k,k≤len∧pre=yx len k) len w:=fun l J Jx W hW _ _ hY h0 =>
 zHO F n hf hro hn l Bs b off len cap a ha L hlen J Jx hY W (hW.keeps' FL) (fun j hj=>(hc j hj).below hW) h0
end Go.Proofs.YtcgfilmmokmdjaaGreat
namespace Go.Proofs.YtcgfilmmokmdjaaGreat
open Go.RowKit Go.Shelf
attribute [local go_sem] Oper.semAt_some
def vy (F:List jK) (n:Nat) (pre:List Nat):List Int:=pre.flatMap fun x=>if ((mq F x).at_:Int)≠(n:Int)-1 then [(mq F x).gen] else []
theorem zJk {F:List jK} {n:Nat} (pre:List Nat) {x:Nat} (h:((mq F x).at_:Int)≠(n:Int)-1):vy F n (pre++[x])=vy F n pre++[(mq F x).gen]:=by simp[vy,h]
theorem zGq {F:List jK} {n:Nat} (pre:List Nat) {x:Nat} (h:((mq F x).at_:Int)=(n:Int)-1):vy F n (pre++[x])=vy F n pre:=by simp[vy,h]
theorem zIG (F:List jK) (n:Nat) (pre:List Nat):(vy F n pre).length≤pre.length:=by
 induction pre with
 |nil=>exact ag _
 |cons x pre ih =>
  have e:vy F n (x::pre)=(if ((mq F x).at_:Int)≠(n:Int)-1 then [(mq F x).gen] else [])++vy F n pre:=rfl;rw[e,aw,aV]
  split<;>simp<;>omega
theorem zFZ (F:List jK):(yx F.length F.length).map (mq F)=F.reverse:=by
 refine List.ext_getElem (by simp[wy]) fun j h1 h2=>?_
 simp only[aH,wy] at h1;simp[yx,mq,List.getElem_reverse,ax];rw[aB (by omega)]
 rfl
theorem zIS {s:eX} (key:Int):vy (yA s key) s.dY.length (yx (yA s key).length (yA s key).length)=zS s key:=by
 have e1:vy (yA s key) s.dY.length (yx (yA s key).length (yA s key).length)=((yx (yA s key).length (yA s key).length).map (mq (yA s key))).flatMap fun x=>if (x.at_:Int)≠(s.dY.length:Int)-1 then [x.gen] else []:=by
  unfold vy;rw[List.flatMap_map]
 rw[e1,zFZ];unfold zS
 cases hv:zY s with
 |false=>rw[kJ hv];rfl
 |true =>
  rw[ah rfl];have hn:=((zW _).1 hv).len.1;have e2:yA s key=xU s.dY key s.dY.length:=by unfold yA;rw[ah hv]
  rw[e2,← S8 s.dY key s.dY.length (s.dY.length-1) (by omega)];have hb:=ZA (l:=s.dY) (key:=key) s.dY.length;have hq:∀ M:List jK,(∀ x∈M,x.at_<s.dY.length)→(M.flatMap fun x=>if (x.at_:Int)≠(s.dY.length:Int)-1 then [x.gen] else [])=(M.filter fun x=>decide (x.at_<s.dY.length-1)).map (·.gen):=by
   intro M
   induction M with
   |nil=>intro _;rfl
   |cons x M ih =>
    intro hM;have hx:=hM x (List.mem_cons_self ..);rw[ct,ih fun y hy=>hM y (List.mem_cons_of_mem _ hy)]
    by_cases hc:x.at_<s.dY.length-1
    ·
     rw[ah (by omega),List.filter_cons_of_pos (by simpa using hc)];rfl
    rw[ai (by omega),List.filter_cons_of_neg (by simpa using hc)];rfl
  exact hq _ fun x hx=>hb x (List.mem_reverse.1 hx)
theorem zG5 (s:eX) (key:Int):(yA s key).length≤8:=by
 cases hv:zY s with
 |false=>rw[kJ hv];exact aq _
 |true =>
  have e2:yA s key=xU s.dY key s.dY.length:=by unfold yA;rw[ah hv]
  rw[e2];exact ak (ZD _ _ _) ((zW _).1 hv).len.2
theorem zGd {β:Type} (B:Nat) (t:TypeId) (cs:β→Array Value):Own (fun s W=>dZ W B (cs s) t):=fun s X Y row hs hg hrow=>by
 have hs':X.heap[B]?=some (.cells (cs s) t (0,0)):=hs;exact (hg.block B (Array.getElem?_eq_some_iff.1 hs').1 (fun e'=>by obtain ⟨o,ho,hc⟩:=hrow B e'.symm;rw[hs'] at ho;cases ho;cases hc)).trans hs'
theorem zLC {β:Type} (n₀:Nat) (e:TypeId) (size:Nat) (v:β→Value) (k:β→Nat) (f:β→List Value):Own (fun s W=>W.ownsRow n₀ e size (v s) (k s) (f s)):=by
 rintro s X Y row hr hg hrow;refine hr.kept hg ?_;rcases hr.2 with ⟨h1,_⟩|⟨g,cap,cur,h1,_,hgb,_⟩
 ·
  exact .inl (by rw[h1];rfl)
 refine .inr fun e'=>?_
 obtain ⟨o,ho,hc⟩:=hrow g (by rw[h1] at e';simpa [Value.ownBlock] using e'.symm);rw[hgb] at ho;cases ho;cases hc
theorem zBh {W:World} {n n' sz sz' k k':Nat} {e e':TypeId} {v v':Value} {xs xs':List Value} (h:W.ownsRow n e sz v k xs) (h':W.ownsRow n' e' sz' v' k' xs') (he:e≠e'):v.ownBlock=none∨v.ownBlock≠v'.ownBlock:=by
 rcases h.2 with ⟨h1,_⟩|⟨g,cap,cur,rfl,_,hgb,_⟩
 ·
  exact .inl (by rw[h1];rfl)
 refine .inr ?_;rcases h'.2 with ⟨rfl,_⟩|⟨g2,cap2,ajb,rfl,_,JW,_⟩
 ·
  simp[Value.ownBlock]
 intro e3;obtain rfl:g=g2:=by simpa [Value.ownBlock] using e3
 rw[hgb] at JW;simp at JW;exact he JW.2
theorem dZ.not_row {W:World} {B:Nat} {cs:Array Value} {t e:TypeId} (h:dZ W B cs t) (hte:t≠e) {base size k:Nat} {v:Value} {xs:List Value} (hr:W.ownsRow base e size v k xs):some B≠v.ownBlock:=by
 rcases hr.2 with ⟨rfl,_⟩|⟨g,cap,cur,rfl,_,hgb,_⟩
 ·
  simp[Value.ownBlock]
 intro e';obtain rfl:B=g:=by simpa [Value.ownBlock] using e'
 have:=(show W.heap[B]?=_ from h).symm.trans hgb;simp at this;exact hte this.2
theorem zFG (i l:Int) (r:Bool) (a:Option Addr) (n c:Nat) (L:List GP) (w:World) (h:fD w (.slice a n c) L) (hs:∀ p∈L,∀ j,j<8→(p.1.m.st j).length≤10000) (key:Int) :
  Calls Tryz.prog 181 #[zO i l r a n c,.int .u64 key] w fun e w'=>∃ v',e=.returned v'∧gF w' w.heap.size v' (zS ⟨i,l,r,ep L⟩ key)∧Below w.heap.size w w':=by
 have hSl:=fun W (hb:Below w.heap.size w W)=>ZF i l r a n c L W (h.below hb) hs key
 have hres:=zIS (s:=⟨i,l,r,ep L⟩) key;have hF8:=zG5 ⟨i,l,r,ep L⟩ key;have hnL:(ep L).length=n:=by
  rw[zn];obtain ⟨_,_,e,_⟩:=h.shape;injection e with _ e _;exact e.symm
 have hcap:n≤9223372036854775807:=by
  show n≤maxLen
  obtain ⟨_,_,e,h1,h2⟩:=h.shape;injection e with _ e _;rw[e];exact ak h1 h2
 dsimp only at hres;rw[hnL] at hres;generalize hF:yA ⟨i,l,r,ep L⟩ key=F at *;clear hF h hs hnL;rw[← hres];clear hres;obtain ⟨i0,hi,hz0,hz1,hz2⟩:=cm (P:=Tryz.prog) (e:=3) (z:=.int .i64 0) (size:=1) (bytes:=8) (by kernel_rfl);refine (callsIn_wide (n:=20)).1 (callsIn_of_wp_marks Tryz.func181 rfl trivial ?_ rfl);simp only[Tryz.ntmps181,cu,aV,dI,Nat.reduceAdd,Nat.reduceSub,Array.replicate_succ,Array.replicate_zero,List.push_toArray,List.append_toArray,bQ,List.cons_append];have EO:=eW.new w i l r a n c 27;have w_:=zM w i l r a n c 27;have hO:=Boxed.new (w.alloc (.cells (zK i l r a n c) 27)) 233 (.slice none 0 0);rw[cO] at hO;have hX:=EO.below ((aj _ _).alloc (ag _) (.cells #[.slice none 0 0] 233));have hB1:=w_.alloc (by simp) (.cells #[.slice none 0 0] 233);obtain ⟨k0,k1,k2,k3⟩:=hX.q
 gi_wp2_with (first|(refine ⟨trivial,?_⟩;gi_at_call 62;refine (callsIn_wide.2 (hSl _ hB1)).mono ?_;rintro e w1 ⟨v,rfl,hown,hb1⟩;obtain ⟨av,cv,rfl,-,-,-,-⟩:=iN.shape hown.rd (by decide) yU)|(refine ⟨trivial,?_⟩;gi_at_call 200;refine (callsIn_wide.2 (zB1 _ _ _ _)).mono ?_;rintro e w' ⟨rfl,rfl⟩;clear k0 k1 k2 k3))
 clear hSl;have hpos:=fun hp=>uV hown hp
 obtain ⟨b,off,hav,hbl,lI,hrows⟩:∃ b off,(0<F.length→av=some ⟨b,off,none⟩)∧b<w1.heap.size+1∧w.heap.size+2≤b∧∀ j,j<F.length→IP w1 b (off+j*8) (mq F j):=by
  by_cases hp:0<F.length
  ·
   obtain ⟨g,hg1,hg2,hg3⟩:=hpos hp;obtain ⟨_,hq⟩:=GV.at hown.rd;obtain ⟨b,off,e1,hr⟩:=hq hp;rw[hg1] at e1;obtain ⟨rfl,rfl⟩:b=g∧off=0:=by injection e1 with e1;injection e1 with e1 e2;exact ⟨e1.symm,e2.symm⟩
   exact ⟨b,0,fun _=>hg1,by omega,by simpa using hg2,hr⟩
  exact ⟨w1.heap.size,0,fun h=>absurd h hp,by omega,by have:=hb1.size;simpa using this,fun j hj=>absurd (Nat.lt_of_le_of_lt (aq _) hj) hp⟩
 have hS1:dZ w1 w.heap.size (zK i l r a n c) 27:=((dZ.new w _ _).below ((aj _ _).alloc (ag _) _)).below hb1;have Uv:=hO.below hb1;have hB2:=zA hB1 hb1;have hF1:=hown;clear hb1 hX EO w_ hB1 hO hown hpos;have hlz:w.heap.size+2≤w1.heap.size:=by have:=Uv.lt;omega
 obtain ⟨W0,hW0⟩:∃ W0,w1.alloc (.cells #[.slice av F.length cv] 135)=W0:=⟨_,rfl⟩
 have bS:Boxed W0 w1.heap.size 135 (.slice av F.length cv):=by rw[← hW0];exact Boxed.new w1 _ _
 have bO:Boxed W0 (w.heap.size+1) 233 (.slice none 0 0):=by rw[← hW0];exact Uv.alloc _
 have bX:dZ W0 w.heap.size (zK i l r a n c) 27:=by rw[← hW0];exact hS1.below ((aj _ _).alloc (ag _) _)
 have bF:W0.ownsRow (w.heap.size+2) 138 8 (.slice av F.length cv) F.length (F.flatMap Dp):=by
  rw[← hW0];have:=hF1.alloc (.cells #[.slice av F.length cv] 135)
  simpa using this
 have FK:Below w.heap.size w W0:=by rw[← hW0];exact hB2.alloc hB2.size _
 have hsz:W0.heap.size=w1.heap.size+1:=by rw[← hW0];simp
 have JX:∀ j,j<F.length→IP W0 b (off+j*8) (mq F j):=by rw[← hW0];exact fun j hj=>(hrows j hj).below ((aj _ _).alloc (ag _) _)
 rw[hW0];clear hW0 hS1 Uv hF1 hB2 hrows;generalize w1.heap.size=Bs at *;clear w1;refine wpIn_rangeFunc_ownH rfl (by decide) (gf:=211) (lb:=#[.pointer (some ⟨Bs,0,none⟩)]) rfl trivial (enters_of Tryz.func211 (by kernel_rfl) rfl)
  (zEF Fence.wide (20-1) trivial rfl (by decide) Bs b off F.length cv av hav F hF8 W0 bS.cell JX) Ac.trans (Ac.put (by omega) (by omega)) (aj _ _) (fun _=>rfl)
  (fun pre W=>(((∃ v,Boxed W (w.heap.size+1) 233 v∧W.ownsRow w.heap.size 3 1 v (vy F n pre).length ((vy F n pre).map tV)∧True)∧W.ownsRow (w.heap.size+2) 138 8 (.slice av F.length cv) F.length (F.flatMap Dp))∧dZ W w.heap.size (zK i l r a n c) 27∧Boxed W Bs 135 (.slice av F.length cv))∧Below w.heap.size w W)
  (fun _ _ _=>False)
  (OwnFrom.and (OwnFrom.and (OwnFrom.and (Own.from (holdsRow_own w.heap.size (w.heap.size+1) 233 3 1 (fun pre=>(vy F n pre).length) (fun pre=>(vy F n pre).map tV) (fun _ _=>True)) _) (Own.from (zLC (w.heap.size+2) 138 8 (fun _=>.slice av F.length cv) (fun _=>F.length) (fun _=>F.flatMap Dp)) _)) (OwnFrom.and (Own.from (zGd _ _ _) _) (Own.from (boxed_own _ _ _) _))) (ownFrom_below (ag _) (by omega)))
  (fun _ _ _ _ _ hs _ _=>hs)
  ⟨⟨⟨⟨_,bO,aT _ _ _ _,trivial⟩,bF⟩,bX,bS⟩,FK⟩
  (fun x a' W=>∃ Bx,Bs<Bx∧b<Bx∧dZ W Bx (Dp (mq F x)).toArray 138∧a'={tmps:=#[zO i l r a n c,.int .u64 key,.pointer (some ⟨w.heap.size,0,none⟩),undef,.slice none 0 0,.pointer (some ⟨w.heap.size+1,0,none⟩),undef,.pointer (some ⟨Bx,0,none⟩),zO i l r a n c,.int .u64 key,.slice av F.length cv,.func (.func 211) #[] #[.pointer (some ⟨Bs,0,none⟩)],.int .i64 (x:Int),Uu (mq F x),undef,undef,undef,undef,undef,undef,undef,undef,undef,undef,undef,undef,undef,undef],defers:=[]})
  (fun x a' _ X Y row hs hg hr=>by obtain ⟨Bx,h1,h2,h3,h4⟩:=hs;exact ⟨Bx,h1,h2,(zGd Bx _ (fun _:Unit=>_)) () X Y row h3 hg (fun r e=>(hr r e).2),h4⟩)
  ?assign ?body ?done ?stop
 case assign =>
  rintro lp pre x W K hI hK;obtain ⟨⟨⟨⟨v,hv,hrow,_⟩,Lh⟩,Li,A5⟩,hB1⟩:=hI;have hlt:=A5.lt
  gi_wp2
  exact hK _ _ ((KeepsOthers.alloc _ _).from _) (Ac.below ((aj _ W).alloc (ag _) _))
   ⟨⟨⟨⟨v,hv.alloc _,hrow.alloc _,trivial⟩,Lh.alloc _⟩,Li.below ((aj _ W).alloc (ag _) _),A5.alloc _⟩,hB1.alloc hB1.size _⟩ ⟨W.heap.size,by omega,by omega,dZ.new W _ _,rfl⟩
 case body =>
  rintro lp pre x a' W hl ⟨rr,hr⟩ ⟨⟨⟨⟨v,hv,hrow,_⟩,Lh⟩,Li,A5⟩,hB1⟩ ⟨Bx,hx1,hx2,bx,rfl⟩ hlt;have rW:=zIG F n pre;have c0:=bx.cell (i:=0) (u:=.int .i64 (mq F x).gen) rfl;have c7:=bx.cell (i:=7) (u:=.int .i64 ((mq F x).at_:Int)) rfl;have k3:=Li.cell (i:=3) (u:=.slice a n c) rfl;have Ns:=hB1.size;have hOl:=hv.lt;have hBl:=A5.lt;have NS:=hav (by omega)
  by_cases hc:((mq F x).at_:Int)=(n:Int)-1
  ·
   have hm:=zGq pre hc;rw[hc] at c7
   gi_wp2
   exact ⟨(KeepsOthers.refl W).from _,Ac.refl _ _ _,⟨⟨⟨v,hv,by rw[hm];exact hrow,trivial⟩,Lh⟩,Li,A5⟩,hB1⟩
  have hm:=zJk pre hc;have hci:=hv.cell;generalize hq:((mq F x).at_:Int)=q at *
  gi_wp2_with (gi_at_builtin;refine wpListIn_append_own _ rfl _ _ 233 rfl w.heap.size 3 i0 _ 1 8 Tryz.underlying233 hi hz0 hz1 hz2 rfl (by decide) _ _ _ rfl (hrow.alloc _) ⟨W.heap.size,0,none⟩ 1 1 [.int .i64 (mq F x).gen] rfl rfl (ZC W [.int .i64 (mq F x).gen] 3) (by intro u hu;simp at hu;subst hu;rfl) (by unfold maxLen;omega) (by omega) (by simp;omega) ?_;intro v' w4 hown' hgrow _;obtain ⟨g',cap',rfl⟩:=ownsRow_succ hown';obtain ⟨rP,hv2,hr2,hk2,hb4⟩:=hv.appended (by decide) hrow (by omega) (by omega) hown' hgrow;have hc1:=rP.cell;have hf1:=rP.frozen)
  have hf4:=(Lh.alloc (.cells #[.int .i64 (mq F x).gen] 3)).kept hgrow (zBh Lh hrow (by decide));have hf5:=hf4.kept (grownBy_setCell' w4 (w.heap.size+1) (.slice (some ⟨g',0,none⟩) ((vy F n pre).length+1) cap')) (.inr (rP.not_row (by decide) hf4).symm);have Qg:=((A5.alloc _).kept hgrow (A5.not_row (by decide) hrow)).other (B':=w.heap.size+1) (by omega) (.slice (some ⟨g',0,none⟩) ((vy F n pre).length+1) cap');have bX5:=((Li.below ((aj _ W).alloc (ag _) _)).grown hgrow (Li.not_row (by decide) hrow)).grown (grownBy_setCell' w4 (w.heap.size+1) (.slice (some ⟨g',0,none⟩) ((vy F n pre).length+1) cap')) (by simp);have hkk:∀ k,k<W.heap.size→some k≠v.ownBlock→k≠w.heap.size+1→(w4.setCell ⟨w.heap.size+1,0,none⟩ (.slice (some ⟨g',0,none⟩) ((vy F n pre).length+1) cap')).heap[k]?=W.heap[k]?:=fun k h1 h2 h3 =>
   (Below.heap_setCell _ _ _ k h3).trans ((hgrow.block k (by simp;omega) h2).trans (Below.heap_alloc _ _ _ (by omega)))
  have hKp:Ac b Bs W (w4.setCell ⟨w.heap.size+1,0,none⟩ (.slice (some ⟨g',0,none⟩) ((vy F n pre).length+1) cap')):=fun p hp u hu=>by
   have e:(w4.setCell ⟨w.heap.size+1,0,none⟩ (.slice (some ⟨g',0,none⟩) ((vy F n pre).length+1) cap')).heap[p.block]?=W.heap[p.block]?:=by
    rcases hp with e|e
    ·
     rw[e];refine hkk b (by omega) ?_ (by omega);rcases zBh Lh hrow (by decide) with h1|h1
     ·
      rw[NS] at h1;simp[Value.ownBlock] at h1
     rw[NS] at h1;simpa [Value.ownBlock] using h1
    rw[e];exact hkk Bs (by omega) (A5.not_row (by decide) hrow) (by omega)
   unfold World.cell? at hu ⊢;rw[e];exact hu
  exact ⟨hk2.from _,hKp,⟨⟨⟨_,hv2,by rw[hm,aw,bD];exact hr2,trivial⟩,hf5⟩,bX5,Qg⟩,hB1.trans hb4⟩
 case done =>
  rintro D ys W hD rfl ⟨⟨⟨⟨v,hv,hrow,_⟩,_⟩,_,_⟩,hB1⟩ hK;have hc:=hv.cell
  gi_wp2
  refine ⟨by simp,.inl ⟨_,_,rfl,run_takeDeferred hK,?_⟩⟩;exact ⟨_,results_tmp rfl _ _ _,v,rfl,ownsRow_putObj hrow _ hK rfl,hB1.trans (belowK_b (w:=w) (ag _) W D _ _ (by omega) hK rfl rfl)⟩
 rintro D c' pre W _ _ h _;exact h.elim
end Go.Proofs.YtcgfilmmokmdjaaGreat
