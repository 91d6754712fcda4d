import Derived.Test.YtcgfilmmokmdjaaGreatQAC
import Derived.Test.YtcgfilmmokmdjaaGreatBae
import Derived.Test.YtcgfilmmokmdjaaGreatQAP
import Derived.Test.YtcgfilmmokmdjaaGreatSkb
import Derived.Test.YtcgfilmmokmdjaaGreatQAH
import Derived.Test.YtcgfilmmokmdjaaGreatQAT
import Derived.Test.YtcgfilmmokmdjaaGreatQAX
import Derived.Test.YtcgfilmmokmdjaaGreatQAL
import Derived.Test.YtcgfilmmokmdjaaGreatQAK
set_option linter.all false
set_option maxRecDepth 100000
set_option maxHeartbeats 32000000
namespace Go.Proofs.YtcgfilmmokmdjaaGreat
structure Rec where
 off:Int
 nd:Nd
 deriving DecidableEq
structure Vn where
 slot:Nat
 gen:Nat
 rev:Nat
 deriving DecidableEq
def zL7 (s:Vn):Prop:=s.slot<4∧1≤s.gen∧s.gen≤8∧s.rev≤4294967295
instance (s:Vn):Decidable (zL7 s):=by unfold zL7;exact inferInstance
def zMl:List UInt8:=[78,86,79,76]
def Vo (s:Vn):List UInt8:=zMl++be s.slot 2++be s.gen 2++be s.rev 4
def zLI (k:List Nd):List UInt8:=k.flatMap Xa
def whole:List Nd→Nat→Nat
 |[],_=>0
 |x::k,m=>if m<rN x.data.length then 0 else whole k (m-rN x.data.length)+1
end Go.Proofs.YtcgfilmmokmdjaaGreat
namespace Go.Proofs.YtcgfilmmokmdjaaGreat
open Go.RowKit
def zMd (x:Nd):Int:=if 4096<x.data.length then 8 else 1
def QO:List Nd→Int×List UInt8
 |[]=>(0,[])
 |x::r=>if x.ok then (if (QO r).1=0 then (0,Xa x++(QO r).2) else ((QO r).1,[])) else (zMd x,[])
abbrev zMP (ey:Bool) (tk:Int) (kv nv rv:Value):Value:=.agg #[.bool ey,.int .i64 tk,kv,nv,rv]
abbrev tC (ey:Bool) (tk:Int) (kv nv rv:Value):Array Value:=#[.bool ey,.int .i64 tk,kv,nv,rv]
/-! ### Plain -/
noncomputable def QP:List Kl→eX→eX×Int
  |[],s=>(s,0)
  |k::r,s=>if (xW s k.1 k.2).2=0 then QP r (xW s k.1 k.2).1 else (xh,(xW s k.1 k.2).2)
noncomputable def zMk (s:eX) (ey:Bool) (ks:List Kl) (l:List Nd):eX×Int:=
  if zY s=true then
    (if ey=true then vV s
     else if (QP ks s).2=0 then
       (if (xE (ze s) l).1=0 then yV (QP ks s).1 (xE (ze s) l).2 else (xh,(xE (ze s) l).1))
     else (xh,(QP ks s).2))
  else (xh,1)
/-! ### ET in memory, as they are read -/
structure Ba (w:World) (v:Value) (ks:List KP):Prop where
  row:iN 2 gU w v ks
  keys:∀ p∈ks,lT w p.2.1 p.2.2
theorem Ba.below {w w':World} {v:Value} {ks:List KP} (h:Ba w v ks) (hb:Below w.heap.size w w'):Ba w' v ks:=⟨iN.below h.row hb,fun p hp=>iE.below (h.keys p hp) hb⟩
theorem zJy {l:List KP} {i:Nat} (h:i<l.length):gY l i∈l:=by
  unfold gY;rw[ax,aB h];exact bI h
theorem Ba.shape {w:World} {v:Value} {ks:List KP} (h:Ba w v ks):∃ a cap,v=.slice a ks.length cap∧ks.length≤cap∧cap≤maxLen:=by
  obtain ⟨a,cap,h1,h2,h3,_⟩:=iN.shape h.row (by decide) (0,.slice none 0 0,[]);exact ⟨a,cap,h1,h2,h3⟩
theorem Ba.at {w:World} {a:Option Addr} {n cap:Nat} {ks:List KP} (h:Ba w (.slice a n cap) ks) {j:Nat} (hj:j<n):∃ b off,a=some ⟨b,off,none⟩∧lT w (gY ks j).2.1 (gY ks j).2.2 ∧
    w.cell? ⟨b,off+j*2,none⟩=some (.int .i64 (gY ks j).1)∧w.cell? ⟨b,off+j*2+1,none⟩=some (gY ks j).2.1:=by
  obtain ⟨a',cap',e,h2,h3,_,h5⟩:=iN.shape h.row (by decide) (0,.slice none 0 0,[]);injection e with e1 e2 e3;subst e1 e2 e3;obtain ⟨b,off,e,hc⟩:=h5 (by omega);refine ⟨b,off,e,h.keys _ (zJy hj),?_,hc j hj 1 _ rfl⟩;have:=hc j hj 0 _ rfl;rwa [bB] at this
theorem zDj (ks:List KP) (i:Nat):yq (iM ks) i=((gY ks i).1,(gY ks i).2.2):=by
  unfold yq iM gY;rw[ax,ax,b_]
  cases ks[i]?<;>rfl
structure jY (W:World) (P:fB) (kv:Value) (ks:List KP) (nv:Value) (es:List (Nd×Value)) (rv:Value):Prop where
 k:Ba W kv ks
 kk:iM ks=P.eu
 n:nC W nv es
 nn:es.map (·.1)=P.needs
 r:Rd W 1 rv P.res.length (P.res.map tV)
theorem jY.below {W W':World} {P:fB} {kv:Value} {ks:List KP} {nv:Value} {es:List (Nd×Value)} {rv:Value} (h:jY W P kv ks nv es rv) (hb:Below W.heap.size W W'):jY W' P kv ks nv es rv:=
 ⟨h.k.below hb,h.kk,h.n.below hb,h.nn,h.r.below hb⟩
theorem mI.read {W:World} {B:Nat} {P:fB} {kv:Value} {ks:List KP} {nv:Value} {es:List (Nd×Value)} {rv:Value} (h:mI W B P kv ks nv es rv):jY W P kv ks nv es rv:=
 ⟨⟨⟨fun x _=>xK x,zk h.k.row⟩,fun p hp=>tu (h.k.keys p hp)⟩,h.kk,⟨zk h.n.row,fun p hp=>(h.n.dat p hp).1⟩,h.nn,zk h.r⟩
theorem oA.read {W:World} {B:Nat} {P:fB} {kv:Value} {ks:List KP} {nv:Value} {es:List (Nd×Value)} {rv:Value} (h:oA W B P kv ks nv es rv):jY W P kv ks nv es rv:=
 ⟨⟨⟨fun x _=>xK x,zk h.k.row⟩,fun p hp=>tu (h.k.keys p hp)⟩,h.kk,⟨zk h.n.row,fun p hp=>(h.n.dat p hp).1⟩,h.nn,zk h.r⟩
theorem zLi (w:World) (i l:Int) (r:Bool) (a:Option Addr) (n c:Nat) (t u:TypeId):∃ W,((w.alloc (.cells (zK i l r a n c) t)).alloc (.cells #[.bool false,.int .i64 0,.slice none 0 0,.slice none 0 0,.slice none 0 0] u))=W∧dZ W w.heap.size (zK i l r a n c) t∧dZ W (w.heap.size+1) #[.bool false,.int .i64 0,.slice none 0 0,.slice none 0 0,.slice none 0 0] u∧Below w.heap.size w W:=by
 have h1:=dZ.new w (zK i l r a n c) t;have b1:=zM w i l r a n c t;generalize hw1:w.alloc (.cells (zK i l r a n c) t)=w1 at *;have e1:w1.heap.size=w.heap.size+1:=by rw[← hw1,cO]
 have h2:=dZ.new w1 #[.bool false,.int .i64 0,.slice none 0 0,.slice none 0 0,.slice none 0 0] u;have b2:=(aj w1.heap.size w1).alloc (ag _) (.cells #[.bool false,.int .i64 0,.slice none 0 0,.slice none 0 0,.slice none 0 0] u);rw[e1] at h2;exact ⟨_,rfl,h1.below b2,h2,zA b1 b2⟩
theorem zHq (s:eX) (ga:Option Addr) (gn gc:Nat) (L:List GP) (qa:Option Addr) (qc:Nat) (qs:List (Rq×Value)) (w:World) (hr:fD w (.slice ga gn gc) L) (hg:ep L=s.dY) (hl:fu 600 s.dY)
  (hq:rG w (.slice qa qs.length qc) qs) (FF:qs.length≤1000000) (il:∀ p∈qs,p.1.data.length≤100000) :
  Calls Tryz.prog 25 #[zO s.id s.lim s.ro ga gn gc,.slice qa qs.length qc] w fun e w'=>∃ kv ks nv es rv,e=.returned (.tuple #[.agg #[.bool (yT s (qs.map (·.1))).1.ey,.int .i64 ((yT s (qs.map (·.1))).1.res.length:Int),kv,nv,rv],.int .i64 (yT s (qs.map (·.1))).2])∧jY w' (yT s (qs.map (·.1))).1 kv ks nv es rv∧Below w.heap.size w w':=by
 have Vp:=zh (fun W (hb:Below w.heap.size w W)=>zHt s ga gn gc L qa qc qs w W hb hr hg hl hq FF il);generalize yT s (qs.map (·.1))=M at *;obtain ⟨M,me⟩:=M;clear hr hg hl hq il;dsimp only at Vp ⊢
 go_enter Tryz.func25,Tryz.ntmps25
 go_upto_region 1 with fail;change Code.wp _ _ _ _ ((w.alloc (.cells (zK s.id s.lim s.ro ga gn gc) 31)).alloc (.cells #[.bool false,.int .i64 0,.slice none 0 0,.slice none 0 0,.slice none 0 0] 78));obtain ⟨W1,hW1,hx1,hx2,fU⟩:=zLi w s.id s.lim s.ro ga gn gc 31 78;rw[hW1];have HX:=zh hx1;have HY:=zh hx2;have HB:=zh fU;have Cg:w.heap.size+1<W1.heap.size:=hx2.lt;clear hW1 hx1 hx2 fU;have q0:=HX.out.cell (i:=0) rfl;have q1:=HX.out.cell (i:=1) rfl;have q2:=HX.out.cell (i:=2) rfl;have q3:=HX.out.cell (i:=3) rfl;go_wp2_with fail;refine (Vp.out W1 HB.out).mono ?_;rintro e w2 ⟨g1,n1,c1,kv,ks,nv,es,rv,rfl,hpl,hb⟩;have HP:=zh hpl;have eB:=zh (HB.out.trans hb.b);have ig:=zh (hb.box HY.out (by decide));have rQ:w.heap.size+1<w2.heap.size:=cM Cg hb.size;clear hpl hb q0 q1 q2 q3 HX HY HB Vp;obtain ⟨ra,rc,Ke,_⟩:=zH HP.out.r
 obtain ⟨ka,kc,G9,_⟩:=zH HP.out.k.row;obtain ⟨na,nc,G6,_⟩:=zH HP.out.n.row;subst Ke G9 G6;go_upto_region 2 with fail;change Code.wp _ _ _ _ ((w2.alloc (.cells #[.bool M.ey,.int .i64 (M.res.length:Int),.slice ka ks.length kc,.slice na es.length nc,.slice ra M.res.length rc] 78)).alloc (.cells (zK M.t.id M.t.lim M.t.ro g1 n1 c1) 31));have hb1:=(aj w2.heap.size w2).alloc (ag _) (.cells #[.bool M.ey,.int .i64 (M.res.length:Int),.slice ka ks.length kc,.slice na es.length nc,.slice ra M.res.length rc] 78);have HV:=zh (dZ.new w2 #[.bool M.ey,.int .i64 (M.res.length:Int),.slice ka ks.length kc,.slice na es.length nc,.slice ra M.res.length rc] 78);replace HP:=zh (HP.out.below hb1);replace eB:=zh (eB.out.trans (hb1.mono (by omega)));replace ig:=zh (ig.out.below hb1);clear hb1
 have hs2:w2.heap.size<(w2.alloc (.cells #[.bool M.ey,.int .i64 (M.res.length:Int),.slice ka ks.length kc,.slice na es.length nc,.slice ra M.res.length rc] 78)).heap.size:=HV.out.lt;generalize w2.alloc (.cells #[.bool M.ey,.int .i64 (M.res.length:Int),.slice ka ks.length kc,.slice na es.length nc,.slice ra M.res.length rc] 78)=w3 at *;have hb1:=zM w3 M.t.id M.t.lim M.t.ro g1 n1 c1 31;replace HV:=zh (HV.out.below hb1);replace HP:=zh (HP.out.below hb1);replace eB:=zh (eB.out.trans (hb1.mono (by omega)));replace ig:=zh (ig.out.below hb1);clear hb1;generalize w3.alloc (.cells (zK M.t.id M.t.lim M.t.ro g1 n1 c1) 31)=w4 at *;generalize w2.heap.size=b6 at *;generalize hc4:w.heap.size+1=c4 at *;have A_:=zh (dZ.sets (wL M.ey (M.res.length:Int) (.slice ka ks.length kc) (.slice na es.length nc) (.slice ra M.res.length rc)) ig.out)
 have iW:=zh (HP.out.gK (gw.pts (B:=w.heap.size) (by omega) ⟨_,_,ig.out⟩ (wL M.ey (M.res.length:Int) (.slice ka ks.length kc) (.slice na es.length nc) (.slice ra M.res.length rc))) (by decide) (by decide) (by decide) (by decide) (by decide)).read;have fV:=zh (zD (B:=w.heap.size) (b:=c4) (by omega) (wL M.ey (M.res.length:Int) (.slice ka ks.length kc) (.slice na es.length nc) (.slice ra M.res.length rc)) eB.out);have v0:=HV.out.cell (i:=0) rfl;have v1:=HV.out.cell (i:=1) rfl;have v2:=HV.out.cell (i:=2) rfl;have v3:=HV.out.cell (i:=3) rfl;have v4:=HV.out.cell (i:=4) rfl;have y0:=ig.out.cell (i:=0) rfl;have y1:=ig.out.cell (i:=1) rfl;have y2:=ig.out.cell (i:=2) rfl;have y3:=ig.out.cell (i:=3) rfl;have y4:=ig.out.cell (i:=4) rfl;have yf:=ig.out.frozen;go_wp2_with fail
 change bodyPost _ _ _ _ _ (pts w4 c4 (wL M.ey (M.res.length:Int) (.slice ka ks.length kc) (.slice na es.length nc) (.slice ra M.res.length rc)));clear v0 v1 v2 v3 v4 y0 y1 y2 y3 y4 yf HP ig HV eB;generalize pts w4 c4 (wL M.ey (M.res.length:Int) (.slice ka ks.length kc) (.slice na es.length nc) (.slice ra M.res.length rc))=w5 at *;have y0:=A_.out.cell (i:=0) (u:=.bool M.ey) (by simp);have y1:=A_.out.cell (i:=1) (u:=.int .i64 (M.res.length:Int)) (by simp);have y2:=A_.out.cell (i:=2) (u:=.slice ka ks.length kc) (by simp);have y3:=A_.out.cell (i:=3) (u:=.slice na es.length nc) (by simp);have y4:=A_.out.cell (i:=4) (u:=.slice ra M.res.length rc) (by simp)
 exact au (v:=.tuple #[.agg #[.bool M.ey,.int .i64 (M.res.length:Int),.slice ka ks.length kc,.slice na es.length nc,.slice ra M.res.length rc],.int .i64 me]) (by simp[results,Tryz.results25,go_sem,y0,y1,y2,y3,y4]) rfl ⟨.slice ka ks.length kc,ks,.slice na es.length nc,es,.slice ra M.res.length rc,rfl,iW.out,fV.out⟩
theorem zId {ks:List KP} {k:Nat} (h:k<ks.length):(ks.take (k+1)).flatMap gU=(ks.take k).flatMap gU++gU (gY ks k):=by
 rw[cV,aB h]
 show (ks.take k++[ks[k]]).flatMap gU=_
 rw[b7,uk h];simp
theorem zHx (P:fB) (ey:Bool) (take:Int) (ka na ra:Option Addr) (kc nn nc rn rc:Nat) (ks:List KP) (es:List (Nd×Value)) (w:World) (h:jY w P (.slice ka ks.length kc) ks (.slice na nn nc) es (.slice ra rn rc)) (hks:ks.length≤100000) :
  Calls Tryz.prog 27 #[.agg #[.bool ey,.int .i64 take,.slice ka ks.length kc,.slice na nn nc,.slice ra rn rc]] w fun e w'=>∃ a c,e=.returned (.agg #[.bool ey,.int .i64 take,.slice a ks.length c,.slice na nn nc,.slice ra rn rc])∧jY w' P (.slice a ks.length c) ks (.slice na nn nc) es (.slice ra rn rc)∧Below w.heap.size w w':=by
 have HH:=zh h;have Bj:=zh (fun k (hk:k<ks.length)=>zId hk);clear h
 go_enter Tryz.func27,Tryz.ntmps27
 go_upto_region 1 with fail;change Code.wp _ _ _ _ ((w.alloc (.cells #[.bool ey,.int .i64 take,.slice ka ks.length kc,.slice na nn nc,.slice ra rn rc] 71)).alloc (.cells #[.bool false,.int .i64 0,.slice none 0 0,.slice none 0 0,.slice none 0 0] 78));have hb1:=(aj w.heap.size w).alloc (ag _) (.cells #[.bool ey,.int .i64 take,.slice ka ks.length kc,.slice na nn nc,.slice ra rn rc] 71);have HX:=zh (dZ.new w #[.bool ey,.int .i64 take,.slice ka ks.length kc,.slice na nn nc,.slice ra rn rc] 71);have hs1:(w.alloc (.cells #[.bool ey,.int .i64 take,.slice ka ks.length kc,.slice na nn nc,.slice ra rn rc] 71)).heap.size=w.heap.size+1:=by simp
 generalize w.alloc (.cells #[.bool ey,.int .i64 take,.slice ka ks.length kc,.slice na nn nc,.slice ra rn rc] 71)=w1 at *;have hb2:=(aj w1.heap.size w1).alloc (ag _) (.cells #[.bool false,.int .i64 0,.slice none 0 0,.slice none 0 0,.slice none 0 0] 78);have HZ:=zh (dZ.new w1 #[.bool false,.int .i64 0,.slice none 0 0,.slice none 0 0,.slice none 0 0] 78);have fh:=zh (HX.out.below hb2);have eP:=zh (zA hb1 hb2);rw[hs1] at HZ;have hs2:w.heap.size+1<(w1.alloc (.cells #[.bool false,.int .i64 0,.slice none 0 0,.slice none 0 0,.slice none 0 0] 78)).heap.size:=HZ.out.lt;clear hb1 hb2 hs1 HX;generalize w1.alloc (.cells #[.bool false,.int .i64 0,.slice none 0 0,.slice none 0 0,.slice none 0 0] 78)=w2 at *;have x0:=fh.out.cell (i:=0) rfl;have x1:=fh.out.cell (i:=1) rfl;have x2:=fh.out.cell (i:=2) rfl;have x3:=fh.out.cell (i:=3) rfl
 have x4:=fh.out.cell (i:=4) rfl;go_upto_region 2 with fail;clear x0 x1 x2 x3 x4;change Code.wp _ _ _ _ (w2.alloc (.cells #[.bool ey,.int .i64 take,.slice none 0 0,.slice na nn nc,.slice ra rn rc] 78));have hb1:=(aj w2.heap.size w2).alloc (ag _) (.cells #[.bool ey,.int .i64 take,.slice none 0 0,.slice na nn nc,.slice ra rn rc] 78);have Vq:=zh (dZ.new w2 #[.bool ey,.int .i64 take,.slice none 0 0,.slice na nn nc,.slice ra rn rc] 78);have fW:=zh (fh.out.below hb1);have Dg:=zh (HZ.out.below hb1);have eM:=zh (zA eP.out hb1);have hs3:w2.heap.size<(w2.alloc (.cells #[.bool ey,.int .i64 take,.slice none 0 0,.slice na nn nc,.slice ra rn rc] 78)).heap.size:=Vq.out.lt;clear hb1 fh HZ eP;generalize w2.alloc (.cells #[.bool ey,.int .i64 take,.slice none 0 0,.slice na nn nc,.slice ra rn rc] 78)=w3 at *;generalize hb3:w2.heap.size=b3 at *
 generalize hc4:w.heap.size+1=c4 at *;have hw3:w.heap.size≤w3.heap.size:=by omega
 have x2:=fW.out.cell (i:=2) rfl;obtain ⟨B,hB⟩:∃ B,w3.heap.size=B:=⟨_,rfl⟩
 have jf:=zh (aT w3 B 103 2);have hBb:w.heap.size≤B∧b3<B∧c4<B∧c4≠b3∧w.heap.size≤b3∧w.heap.size≤c4∧b3≠w.heap.size:=by omega
 have T3:B≤w3.heap.size:=by omega
 have Gf:=zh T3;clear hB T3 hb3;go_wp2_with fail;clear x2
 go_loopw [18] (fun iv W=>∃ (k:Nat) (a:Option Addr) (c:Nat),iv=.int .i64 (k:Int)∧k≤ks.length∧Hid (dZ W b3 #[.bool ey,.int .i64 take,.slice a k c,.slice na nn nc,.slice ra rn rc] 78)∧Hid (W.ownsRow B 103 2 (.slice a k c) k ((ks.take k).flatMap gU))∧Hid (dZ W c4 #[.bool false,.int .i64 0,.slice none 0 0,.slice none 0 0,.slice none 0 0] 78)∧Hid (B≤W.heap.size)∧Hid (Below w.heap.size w W)) (fun iv _=>ks.length-(intOf iv).toNat)
 case atStart=>exact ⟨0,none,0,rfl,aq _,Vq,jf,Dg,Gf,eM⟩
 clear Vq jf Dg Gf eM fW;obtain ⟨k,a,c,rfl,hk,HO,jO,HZ,HS,HB⟩:=hrel
 by_cases hlt:k<ks.length
 ·
  have i1:(k:Int)<(ks.length:Int):=by omega
  obtain ⟨bk,ok,e0,hu,c0,c1⟩:=(HH.out.k.below HB.out).at hlt;subst e0;have hT:=Bj.out k hlt;generalize gY ks k=kp at *;obtain ⟨num,kv9,keys⟩:=kp;dsimp only at c0 c1 hu hT;obtain ⟨Ls,Lt,rfl,_,_⟩:=hu.fK;have HT:=zh hT;clear hT hu;go_upto_region 5 with fail;clear c0 c1;change Code.wp _ _ _ _ (wr.alloc (.cells #[.int .i64 num,.slice Ls keys.length Lt] 89));have hb1:=(aj wr.heap.size wr).alloc (ag _) (.cells #[.int .i64 num,.slice Ls keys.length Lt] 89);have HY:=zh (dZ.new wr #[.int .i64 num,.slice Ls keys.length Lt] 89);replace HO:=zh (HO.out.below hb1);replace jO:=zh (zG jO.out hb1);replace HZ:=zh (HZ.out.below hb1);replace HS:=zh (ak HS.out hb1.size);replace HB:=zh (zA HB.out hb1);clear hb1;generalize wr.alloc (.cells #[.int .i64 num,.slice Ls keys.length Lt] 89)=v1 at *;generalize wr.heap.size=b5 at *;have y0:=HY.out.cell (i:=0) rfl
  have y1:=HY.out.cell (i:=1) rfl;have o2:=HO.out.cell (i:=2) rfl;have ew:=(aj v1.heap.size v1).alloc (ag _) (.cells #[.int .i64 num,.slice Ls keys.length Lt] 103);have Qw:=zh (HO.out.below ew);have jW:=zh (zG jO.out ew);have OA:=zh (HZ.out.below ew);have mj:=zh (zA HB.out ew);have o7:=ak HS.out ew.size;clear ew HO jO HZ HB HS HY
  go_wp2_with (at_builtin;go_must (refine zP (n:=k) (m:=1) rfl (.tmp 23) (.tmp 29) 76 rfl Lp B rfl jW.out rfl (Rd.jD v1.heap.size v1 rfl 2 [.int .i64 num,.slice Ls keys.length Lt] 103 1 rfl (by decide)) (fun u hu=>by simp only[aX,aY,aZ] at hu;rcases hu with h|h<;>rw[h]<;>rfl) (by unfold maxLen;omega) (by omega) o7 ?_);intro v3 w3 ei eL hv3;clear hv3;obtain ⟨oa,oc,ev,_,_,_⟩:=zH ei;subst ev;have DC:=fA.row jW.out eL (ag B);have gO:=Qw.out.eY DC (by decide);have c2:=gO.cell (i:=2) rfl;have f2:=gO.frozen 2);have hn9:dZ (w3.setCell ⟨b3,2,none⟩ (.slice oa (k+1) oc)) b3 #[.bool ey,.int .i64 take,.slice oa (k+1) oc,.slice na nn nc,.slice ra rn rc] 78:=by
   have h:=gO.set 2 (.slice oa (k+1) oc);simp only[aK,aM,aJ] at h;exact h
  have lg:=zh hn9
  have mH:=zh (show (w3.setCell ⟨b3,2,none⟩ (.slice oa (k+1) oc)).ownsRow B 103 2 (.slice oa (k+1) oc) (k+1) ((ks.take (k+1)).flatMap gU) from by
   rw[HT.out]
   exact wI (b:=b3) (by omega) ei [(2,.slice oa (k+1) oc)])
  have HZ9:=zh (show dZ (w3.setCell ⟨b3,2,none⟩ (.slice oa (k+1) oc)) c4 #[.bool false,.int .i64 0,.slice none 0 0,.slice none 0 0,.slice none 0 0] 78 from dZ.eE (c:=b3) (by omega) [(2,.slice oa (k+1) oc)] (OA.out.eY DC (by decide)))
  have HS9:=zh (show B≤(w3.setCell ⟨b3,2,none⟩ (.slice oa (k+1) oc)).heap.size from by
   have h:=eL.size
   have h2:(w3.setCell ⟨b3,2,none⟩ (.slice oa (k+1) oc)).heap.size=w3.heap.size:=by simp[World.setCell]
   omega)
  have i_:=zh (zD (B:=w.heap.size) (b:=b3) (by omega) [(2,.slice oa (k+1) oc)] (mj.out.grown eL (by omega) (fun j hj=>ak (by omega) ((jW.out.lt j hj).1))));change Hid (Below w.heap.size w (w3.setCell ⟨b3,2,none⟩ (.slice oa (k+1) oc))) at i_;clear ei eL gO DC c2 f2 hn9 y0 y1 o2 Qw jW OA mj;go_wp2_with fail;exact ⟨⟨k+1,oa,oc,by go_num,by omega,lg,mH,HZ9,HS9,i_⟩,by simp[intOf];omega⟩
 have i1:¬ (k:Int)<(ks.length:Int):=by omega
 obtain rfl:k=ks.length:=by omega
 have eD:=zh (zD (B:=w.heap.size) (b:=c4) (by omega) (wL ey take (.slice a ks.length c) (.slice na nn nc) (.slice ra rn rc)) HB.out);have DL:=zh (dZ.sets (wL ey take (.slice a ks.length c) (.slice na nn nc) (.slice ra rn rc)) HZ.out)
 have iW:=zh (show jY (pts wr c4 (wL ey take (.slice a ks.length c) (.slice na nn nc) (.slice ra rn rc))) P (.slice a ks.length c) ks (.slice na nn nc) es (.slice ra rn rc) from
  have h:=HH.out.below eD.out
  ⟨⟨⟨fun x _=>xK x,by have h:=zk (wI (b:=c4) (by omega) jO.out (wL ey take (.slice a ks.length c) (.slice na nn nc) (.slice ra rn rc)));rwa [aS (ag _)] at h⟩,h.k.keys⟩,h.kk,h.n,h.nn,h.r⟩)
 have o0:=HO.out.cell (i:=0) rfl;have o1:=HO.out.cell (i:=1) rfl;have o2:=HO.out.cell (i:=2) rfl;have o3:=HO.out.cell (i:=3) rfl;have o4:=HO.out.cell (i:=4) rfl;have z0:=HZ.out.cell (i:=0) rfl;have z1:=HZ.out.cell (i:=1) rfl;have z2:=HZ.out.cell (i:=2) rfl;have z3:=HZ.out.cell (i:=3) rfl;have z4:=HZ.out.cell (i:=4) rfl;have zf:=HZ.out.frozen;go_wp2_with fail;change bodyPost _ _ _ _ _ (pts wr c4 (wL ey take (.slice a ks.length c) (.slice na nn nc) (.slice ra rn rc)));clear o0 o1 o2 o3 o4 z0 z1 z2 z3 z4 zf HO HZ jO;generalize pts wr c4 (wL ey take (.slice a ks.length c) (.slice na nn nc) (.slice ra rn rc))=w9 at *;have z0:=DL.out.cell (i:=0) (u:=.bool ey) (by simp);have z1:=DL.out.cell (i:=1) (u:=.int .i64 take) (by simp);have z2:=DL.out.cell (i:=2) (u:=.slice a ks.length c) (by simp)
 have z3:=DL.out.cell (i:=3) (u:=.slice na nn nc) (by simp);have z4:=DL.out.cell (i:=4) (u:=.slice ra rn rc) (by simp);exact au (v:=.agg #[.bool ey,.int .i64 take,.slice a ks.length c,.slice na nn nc,.slice ra rn rc]) (by simp[results,Tryz.results27,go_sem,z0,z1,z2,z3,z4]) rfl ⟨a,c,rfl,iW.out,eD.out⟩
theorem zL4 (x y:Nd):decide (x=y)=(decide (x.key=y.key)&&decide (x.ck=y.ck)&&(x.del==y.del)&&decide (x.data=y.data)):=by
 obtain ⟨a,b,c,d⟩:=x;obtain ⟨a',b',c',d'⟩:=y;rw[cT];simp[and_assoc]
theorem zFp (x y:Nd) (u v:Value) (w:World) (hu:rB w u x.data) (hv:rB w v y.data) :
  Calls Tryz.prog 70 #[MZ x u,MZ y v] w fun e w'=>e=.returned (.bool (decide (x=y)))∧Below w.heap.size w w':=by
 rw[zL4];obtain ⟨a,cap,rfl,_,_⟩:=hu.fK;obtain ⟨a',cap',rfl,_,_⟩:=hv.fK;obtain ⟨k,c,d,l⟩:=x;obtain ⟨k',c',d',l'⟩:=y;dsimp only at *;have HB:=zh (show Below w.heap.size w ((w.alloc (.cells #[.int .u64 (k:Int),.int .u32 (c:Int),.bool d,.slice a l.length cap] 56)).alloc (.cells #[.int .u64 (k':Int),.int .u32 (c':Int),.bool d',.slice a' l'.length cap'] 56)) from ((aj _ _).alloc (ag _) _).alloc (by simp) _);have k1:=qV (P:=Tryz.prog) 54 9 5 Tryz.underlying54 Tryz.underlying5 Tryz.underlying9 (iE.below hu HB.out);have k2:=qV (P:=Tryz.prog) 54 9 5 Tryz.underlying54 Tryz.underlying5 Tryz.underlying9 (iE.below hv HB.out);clear hu hv;generalize l.length=n at *;generalize l'.length=n' at *
 by_cases c1:k=k'
 ·
  have t1:((k:Int)==(k':Int))=true:=beq_iff_eq.2 (by omega)
  by_cases c2:c=c'
  ·
   have t2:((c:Int)==(c':Int))=true:=beq_iff_eq.2 (by omega)
   by_cases c3:d=d'
   ·
    have t3:(d==d')=true:=beq_iff_eq.2 c3;obtain ⟨q,hq⟩:∃ q,(l==l')=q:=⟨_,rfl⟩
    have HV:=zh (show (decide (k=k')&&decide (c=c')&&(d==d')&&decide (l=l'))=q by rw[← hq,t3,aC c1,aC c2,cT];simp);rw[HV.out];clear c1 c2 c3
    go_enter Tryz.func70,Tryz.ntmps70
    go_wp2_with fail;go_ret;exact ⟨rfl,HB.out⟩
   have t3:(d==d')=false:=beq_eq_false_iff_ne.2 c3;have HV:=zh (show (decide (k=k')&&decide (c=c')&&(d==d')&&decide (l=l'))=false by rw[t3];simp);rw[HV.out];clear c1 c2 c3
   go_enter Tryz.func70,Tryz.ntmps70
   go_wp2_with fail;go_ret;exact ⟨rfl,HB.out⟩
  have t2:((c:Int)==(c':Int))=false:=beq_eq_false_iff_ne.2 (by omega);have HV:=zh (show (decide (k=k')&&decide (c=c')&&(d==d')&&decide (l=l'))=false by rw[aD c2];simp);rw[HV.out];clear c1 c2
  go_enter Tryz.func70,Tryz.ntmps70
  go_wp2_with fail;go_ret;exact ⟨rfl,HB.out⟩
 have t1:((k:Int)==(k':Int))=false:=beq_eq_false_iff_ne.2 (by omega);have HV:=zh (show (decide (k=k')&&decide (c=c')&&(d==d')&&decide (l=l'))=false by rw[aD c1];simp);rw[HV.out];clear c1
 go_enter Tryz.func70,Tryz.ntmps70
 go_wp2_with fail;go_ret;exact ⟨rfl,HB.out⟩
theorem zIC (u v:Value) (l:List Int) (w:World) (hu:lT w u l) (hv:lT w v l) (hl:l.length≤10000000) :
  Calls Tryz.prog 69 #[u,v] w fun e w'=>e=.returned (.bool true)∧Below w.heap.size w w':=by
 obtain ⟨a,c,rfl,_,_,_,hc⟩:=iE.shape hu 0;obtain ⟨a2,c2,rfl,_,_,_,hc2⟩:=iE.shape hv 0;have HC:=zh hc;have Ao:=zh hc2;clear hu hv hc hc2;have HB:=zh (aj w.heap.size w);generalize hn:l.length=n at *;clear hn
 go_enter Tryz.func69,Tryz.ntmps69
 go_wp2_with fail
 go_loopw [5] (fun iv W=>∃ k:Nat,iv=.int .i64 (k:Int)∧k≤n∧Hid (Below w.heap.size w W)) (fun iv _=>n-(intOf iv).toNat)
 case atStart=>exact ⟨0,rfl,aq _,HB⟩
 clear HB;obtain ⟨k,rfl,hk,HB⟩:=hrel
 by_cases hlt:k<n
 ·
  have i1:(k:Int)<(n:Int):=by omega
  obtain ⟨b,o,rfl,h1⟩:=HC.out (by omega);obtain ⟨b2,o2,rfl,h2⟩:=Ao.out (by omega);have c1:=zB ((HB.out.cell (cA w _ (h1 k hlt))).trans (h1 k hlt));have c2:=zB ((HB.out.cell (cA w _ (h2 k hlt))).trans (h2 k hlt));clear h1 h2 HC Ao;generalize nR l k=z at *;go_upto_region 6 with fail;refine zC (by kernel_rfl) (by kernel_rfl) ?_
  repeat (go_big_quiet_step (fail))
  refine aA ?_;intro _ hw';obtain ⟨q,hw'⟩:=hw';subst hw';have eM:=zh (zA HB.out q.h);clear c1 c2;generalize q.w'=v0 at *;clear q HB;go_wp2_with fail;exact ⟨⟨k+1,by go_num,by omega,eM⟩,by simp[intOf];omega⟩
 have i1:¬ (k:Int)<(n:Int):=by omega
 go_wp2_with fail;go_ret;exact ⟨rfl,HB.out⟩
/-! ### What Make answers there, in plain Lean -/
def mJ:eX:=⟨0,9000,false,[fresh 1]⟩
theorem l8:eT mJ:=(zW _).1 (PL 0 9000 false (by decide))
def ng:Rq:=⟨0,1,1,0,[]⟩
def lz:Rq:=⟨0,2,1,0,[]⟩
theorem zK1:(yT mJ []).2=0∧(yT mJ []).1.res=[]∧(yT mJ []).1.needs.length=0:=by
 unfold yT;rw[ah ((zW _).2 l8)];exact ⟨rfl,rfl,rfl⟩
theorem zIu:yY mJ 0=true:=by
 unfold yY;rw[(zW _).2 l8]
 rfl
theorem zBN:yD mJ ng=0:=by
 unfold yD;rw[ai (by decide),ah (show yY mJ ((ng.data.length:Nat):Int)=true from zIu)]
theorem zIl (key:Int):zg (ze mJ).m key=none:=by
 rw[← kt];have h:zJ (ze mJ).m=[]:=YP 1;rw[h];rfl
theorem zFA {t:eX} (h:eT t) (h1:t.dY.length=1) (key:Int):zS t key=[]:=by
 rw[ZJ h,h1];rfl
theorem zFg:yd mJ lz=6:=by
 have h:yA mJ (lz.key:Int)=[]:=by
  rw[T9 l8,T_ l8,zIl];rfl
 unfold yd;rw[h,ai (by simp)]
theorem zKR:(yT mJ [lz]).2=0∧(yT mJ [lz]).1.res=[6]∧(yT mJ [lz]).1.needs.length=0:=by
 have h1:zm (wJ mJ) lz=(true,more (wJ mJ) 6):=qy (by decide) rfl zFg;unfold yT;rw[ah ((zW _).2 l8),vY (by rw[h1]),h1];exact ⟨rfl,rfl,rfl⟩
theorem zKZ:(yT mJ [ng,lz]).2=0∧(yT mJ [ng,lz]).1.res=[0,0]∧(yT mJ [ng,lz]).1.needs.length=2:=by
 have hc:iU (wJ mJ).t (vX ng):=UO l8 zBN;have h1:zm (wJ mJ) ng=(true,more (xH (wJ mJ) (vX ng)) 0):=UL (by decide) rfl zBN (by simp[wJ]);have hk:=kK (P:=wJ mJ) l8 hc;have ht:=QA (P:=wJ mJ) l8 hc;generalize hP:more (xH (wJ mJ) (vX ng)) 0=P1 at *;have hPt:P1.t=(xH (wJ mJ) (vX ng)).t:=by rw[← hP];rfl
 have hPr:P1.res=[0]:=by rw[← hP];rfl
 have hPn:P1.needs=[vX ng]:=by rw[← hP];rfl
 have hPb:P1.bytes=24:=by rw[← hP];rfl
 rw[← hPt] at hk ht;have hv:=hk.v;have hlen:P1.t.dY.length=1:=hk.len;have N6:ze P1.t=yS (ze mJ) (vX ng):=by rw[ht];exact zHk l8 _
 have hg:zg (ze P1.t).m ((lz.key:Nat):Int)=some (Cx (ze mJ) (vX ng)):=by
  rw[N6,zEl l8.EE.1 ⟨aq _,fun e=>(by cases e)⟩ (by decide)]
  rfl
 have hall:yA P1.t ((lz.key:Nat):Int)=[⟨(ze P1.t).num,(ze P1.t).mode,(ze P1.t).rev,Cx (ze mJ) (vX ng),0⟩]:=by
  rw[T9 hv,T_ hv,hg,hlen];rfl
 have Ka:yd P1.t lz=0:=by
  unfold yd;rw[hall,ah ⟨rfl,rfl⟩]
 have hks:wK P1 ((lz.key:Nat):Int)=P1:=by
  unfold wK;rw[zFA hv hlen];rfl
 have hd:we P1 lz=xH P1 (vj lz):=by
  unfold we;rw[hks,ah ((ud hv _).2 (by rw[hg];exact fun e=>(by cases e)))]
 have h2:zm P1 lz=(true,more (xH P1 (vj lz)) 0):=by
  rw[← hd];exact qk (by rw[hPr];decide) rfl Ka (by rw[hPb];omega)
 unfold yT;rw[ah ((zW _).2 l8),vY (by rw[h1]),h1,vY (by rw[h2]),h2];refine ⟨rfl,?_,?_⟩
 ·
  show P1.res++[0]=_
  rw[hPr];rfl
 show (P1.needs++[_]).length=2
 rw[hPn];rfl
theorem Vr {l:List Rq} {R:List Int} {N:Nat} (hM:(yT mJ l).2=0∧(yT mJ l).1.res=R∧(yT mJ l).1.needs.length=N) (b:Nat) (W:World) (hr:fD W (.slice (some ⟨b,0,none⟩) 1 1) De) (qa:Option Addr) (qn qc:Nat) (qs:List (Rq×Value)) (hq:rG W (.slice qa qn qc) qs) (hl:qs.map (·.1)=l) (hs:qs.length≤2) (hd:∀ p∈qs,p.1.data=[]) :
  Calls Tryz.prog 22 #[zO 0 9000 false (some ⟨b,0,none⟩) 1 1,.slice qa qn qc] W fun e w'=>∃ ey ka kn kc na nc ra rc,e=.returned (.tuple #[zMP ey (R.length:Int) (.slice ka kn kc) (.slice na N nc) (.slice ra R.length rc),.int .i64 0])∧Rd w' 1 (.slice ra R.length rc) R.length (R.map tV)∧Below W.heap.size W w':=by
 obtain ⟨_,_,e,_⟩:=hq.shape;injection e with _ e _;subst e;have h:=zCM mJ (some ⟨b,0,none⟩) 1 1 De qa qc qs W hr rfl (fun g hg i _=>by obtain rfl:=List.mem_singleton.1 hg;exact aq _) (by decide) hq (by omega) (fun p hp=>by rw[hd p hp];exact aq _);rw[hl] at h;refine Calls.mono h ?_;rintro e w' ⟨kv,ks,nv,es,rv,rfl,hp,hb⟩;obtain ⟨h1,h2,h3⟩:=hM;obtain ⟨ka,kc,rfl,_⟩:=zH hp.k.row;obtain ⟨na,nc,rfl,_⟩:=zH hp.n.row;have QQ:=zk hp.r;obtain ⟨ra,rc,rfl,_⟩:=zH hp.r;have hN:es.length=N:=by rw[← h3,← hp.nn,aH]
 rw[h1,h2,hN];rw[h2] at QQ;exact ⟨_,_,_,_,_,_,_,_,rfl,QQ,hb⟩
theorem zKb (W:World):rG W (.slice none 0 0) []:=⟨⟨fun x _=>th x,Rd.nil W 5⟩,fun p hp=>(by cases hp)⟩
theorem zFy (W:World) (qs:List (Rq×Value)) (e:TypeId) (h:∀ p∈qs,p.1.data=[]∧p.2=.slice none 0 0) (hm:qs.length≤10):rG (W.alloc (.cells (qs.flatMap rF).toArray e)) (.slice (some ⟨W.heap.size,0,none⟩) qs.length qs.length) qs:=
 ⟨⟨fun x _=>th x,Rd.new W 5 _ e qs.length (yR 5 rF qs fun x _=>th x) (ak hm (by decide))⟩,fun p hp=>by
  obtain ⟨h1,h2⟩:=h p hp
  rw[h1,h2];exact YR _⟩
def Lv:List (Rq×Value):=[(ng,.slice none 0 0),(lz,.slice none 0 0)]
def Lx:List (Rq×Value):=[(lz,.slice none 0 0)]
theorem zDa (w:World):Calls Tryz.prog 19 #[] w fun e w'=>e=.returned (.bool true)∧Below w.heap.size w w':=by
 have EY:=zh (zIv 0 9000 (by decide) w)
 go_enter Tryz.func19,Tryz.ntmps19
 go_wp2_with fail;refine EY.out.mono ?_;rintro e w1 ⟨b,rfl,lI,hg,hb⟩;have HR:=zh (PN hg);have HB:=zh hb;clear hg hb lI EY;go_upto_region 2 with fail;change Code.wp _ _ _ _ (w1.alloc (.cells (zK 0 9000 false (some ⟨b,0,none⟩) 1 1) 27));have fH:=zM w1 0 9000 false (some ⟨b,0,none⟩) 1 1 27;have HS:=zh (dZ.new w1 (zK 0 9000 false (some ⟨b,0,none⟩) 1 1) 27);replace HR:=zh (HR.out.below fH);replace HB:=zh (zA HB.out fH);clear fH;generalize w1.alloc (.cells (zK 0 9000 false (some ⟨b,0,none⟩) 1 1) 27)=w2 at *;generalize w1.heap.size=bS at *;have HM:=zh (Vr zK1 b w2 HR.out none 0 0 [] (zKb w2) rfl (by decide) (fun p hp=>by cases hp));obtain ⟨k0,k1,k2,k3⟩:=(dZ.lF HS.out).q;go_wp2_with fail;refine HM.out.mono ?_;rintro e w3 ⟨ey,ka,kn,kc,na,nc,ra,rc,rfl,QQ,hb⟩;replace HS:=zh (HS.out.below hb);replace HR:=zh (HR.out.below hb)
 replace HB:=zh (zA HB.out hb);clear hb QQ HM k0 k1 k2 k3;go_upto_region 3 with fail;change Code.wp _ _ _ _ (w3.alloc (.cells (tC ey 0 (.slice ka kn kc) (.slice na 0 nc) (.slice ra 0 rc)) 71));have fH:=(aj w3.heap.size w3).alloc (ag _) (.cells (tC ey 0 (.slice ka kn kc) (.slice na 0 nc) (.slice ra 0 rc)) 71);have HP:=zh (dZ.new w3 (tC ey 0 (.slice ka kn kc) (.slice na 0 nc) (.slice ra 0 rc)) 71);replace HS:=zh (HS.out.below fH);replace HR:=zh (HR.out.below fH);replace HB:=zh (zA HB.out fH);clear fH;generalize w3.alloc (.cells (tC ey 0 (.slice ka kn kc) (.slice na 0 nc) (.slice ra 0 rc)) 71)=w4 at *;generalize w3.heap.size=bP at *
 -- the second
 have fH:=(aj w4.heap.size w4).alloc (ag _) (.cells (Lv.flatMap rF).toArray 85);have iA:=zh (zFy w4 Lv 85 (fun p hp=>by simp[Lv] at hp;rcases hp with rfl|rfl<;>exact ⟨rfl,rfl⟩) (by decide));have sQ:=zh (Vr zKZ b _ (HR.out.below fH) _ _ _ Lv iA.out rfl (by decide) (fun p hp=>by simp[Lv] at hp;rcases hp with rfl|rfl<;>rfl));obtain ⟨k0,k1,k2,k3⟩:=(dZ.lF HS.out).q;go_wp2_with fail;change Calls _ _ _ (w4.alloc (.cells (Lv.flatMap rF).toArray 85)) _;refine sQ.out.mono ?_;rintro e w5 ⟨H4,NY,QR,NZ,OE,OG,OH,OI,rfl,Kt,hb⟩;have fM:=zA fH hb;replace HS:=zh (HS.out.below fM);replace HR:=zh (HR.out.below fM);replace HP:=zh (HP.out.below fM);replace HB:=zh (zA HB.out fM);clear hb fM fH sQ iA k0 k1 k2 k3;dsimp only[List.length_cons,List.length_nil,List.map_cons,List.map_nil] at Kt ⊢;go_upto_region 4 with fail
 change Code.wp _ _ _ _ (w5.alloc (.cells (tC H4 2 (.slice NY QR NZ) (.slice OE 2 OG) (.slice OH 2 OI)) 71));have fH:=(aj w5.heap.size w5).alloc (ag _) (.cells (tC H4 2 (.slice NY QR NZ) (.slice OE 2 OG) (.slice OH 2 OI)) 71);have ni:=zh (dZ.new w5 (tC H4 2 (.slice NY QR NZ) (.slice OE 2 OG) (.slice OH 2 OI)) 71);replace HS:=zh (HS.out.below fH);replace HR:=zh (HR.out.below fH);replace HP:=zh (HP.out.below fH);replace HB:=zh (zA HB.out fH);have Fl:=zh (Kt.below fH);clear fH Kt;generalize w5.alloc (.cells (tC H4 2 (.slice NY QR NZ) (.slice OE 2 OG) (.slice OH 2 OI)) 71)=w6 at *;generalize w5.heap.size=Vs at *;have fH:=(aj w6.heap.size w6).alloc (ag _) (.cells (Lx.flatMap rF).toArray 85);have J6:=zh (zFy w6 Lx 85 (fun p hp=>by simp[Lx] at hp;subst hp;exact ⟨rfl,rfl⟩) (by decide))
 have Pq:=zh (Vr zKR b _ (HR.out.below fH) _ _ _ Lx J6.out rfl (by decide) (fun p hp=>by simp[Lx] at hp;subst hp;rfl));obtain ⟨k0,k1,k2,k3⟩:=(dZ.lF HS.out).q;go_wp2_with fail;change Calls _ _ _ (w6.alloc (.cells (Lx.flatMap rF).toArray 85)) _;refine Pq.out.mono ?_;rintro e w7 ⟨H5,CV,QS,CW,OJ,OM,OO,OP,rfl,Ku,hb⟩;have fM:=zA fH hb;replace HS:=zh (HS.out.below fM);replace HR:=zh (HR.out.below fM);replace HP:=zh (HP.out.below fM);replace ni:=zh (ni.out.below fM);replace Fl:=zh (Fl.out.below fM);replace HB:=zh (zA HB.out fM);clear hb fM fH Pq J6 k0 k1 k2 k3;dsimp only[List.length_cons,List.length_nil,List.map_cons,List.map_nil] at Ku ⊢;go_upto_region 5 with fail;change Code.wp _ _ _ _ (w7.alloc (.cells (tC H5 1 (.slice CV QS CW) (.slice OJ 0 OM) (.slice OO 1 OP)) 71))
 have fH:=(aj w7.heap.size w7).alloc (ag _) (.cells (tC H5 1 (.slice CV QS CW) (.slice OJ 0 OM) (.slice OO 1 OP)) 71);have Vt:=zh (dZ.new w7 (tC H5 1 (.slice CV QS CW) (.slice OJ 0 OM) (.slice OO 1 OP)) 71);replace HS:=zh (HS.out.below fH);replace HR:=zh (HR.out.below fH);replace HP:=zh (HP.out.below fH);replace ni:=zh (ni.out.below fH);replace Fl:=zh (Fl.out.below fH);replace HB:=zh (zA HB.out fH);have Vu:=zh (Ku.below fH);clear fH Ku;generalize w7.alloc (.cells (tC H5 1 (.slice CV QS CW) (.slice OJ 0 OM) (.slice OO 1 OP)) 71)=w8 at *;generalize w7.heap.size=Vv at *;have p0:w8.cell? ⟨bP,1,none⟩=some (.int .i64 0):=dZ.cell HP.out rfl;have p1:w8.cell? ⟨Vs,1,none⟩=some (.int .i64 2):=dZ.cell ni.out rfl;have p3:w8.cell? ⟨Vs,3,none⟩=some (.slice OE 2 OG):=dZ.cell ni.out rfl
 have p4:w8.cell? ⟨Vs,4,none⟩=some (.slice OH 2 OI):=dZ.cell ni.out rfl;have s1:w8.cell? ⟨Vv,1,none⟩=some (.int .i64 1):=dZ.cell Vt.out rfl;have s3:w8.cell? ⟨Vv,3,none⟩=some (.slice OJ 0 OM):=dZ.cell Vt.out rfl;have s4:w8.cell? ⟨Vv,4,none⟩=some (.slice OO 1 OP):=dZ.cell Vt.out rfl;obtain ⟨_,_,_,e2,_,_,_,hc2⟩:=Fl.out;injection e2 with e2 _ _;obtain ⟨bx,ox,e3,hc2⟩:=hc2 (by decide);obtain rfl:=e2.trans e3;have r0:w8.cell? ⟨bx,ox,none⟩=some (.int .i64 0):=hc2 0 _ rfl;have r1:w8.cell? ⟨bx,ox+1,none⟩=some (.int .i64 0):=hc2 1 _ rfl;obtain ⟨_,_,_,e4,_,_,_,hc3⟩:=Vu.out;injection e4 with e4 _ _;obtain ⟨gQ,oy,e5,hc3⟩:=hc3 (by decide);obtain rfl:=e4.trans e5;have t0:w8.cell? ⟨gQ,oy,none⟩=some (.int .i64 6):=hc3 0 _ rfl;clear e2 e3 hc2 e4 e5 hc3;go_wp2_with fail;go_ret;exact ⟨rfl,HB.out⟩
def F5 (x:Nd):Nd:=⟨x.key%8,x.ck%4,x.del,if x.del then [] else x.data.take 30⟩
def D_ (n:Nat) (l:List Nd):List Nd:=(l.take n).map F5
theorem zKa (x:Nd):(F5 x).data.length≤30:=by
 unfold F5;dsimp only
 split
 ·
  simp
 rw[ay];omega
theorem Vw (n:Nat) (l:List Nd):(D_ n l).length≤n:=by unfold D_;rw[aH,ay];omega
theorem zEb (n:Nat) (l:List Nd):∀ x∈D_ n l,x.data.length≤30:=fun x hx=>by
 obtain ⟨y,_,rfl⟩:=List.mem_map.1 hx;exact zKa y
theorem zLv (l:List Nd):iR (D_ 6 l)≤400:=by
 have key:∀ k:List Nd,(∀ x∈k,x.data.length≤30)→iR k≤k.length*56:=by
  intro k
  induction k with
  |nil=>intro _;exact aq _
  |cons x r ih =>
   intro h;have h1:=ih fun y hy=>h y (by simp[hy])
   have h2:=h x (by simp);have h3:eN x.data.length≤56:=by rw[LR (by omega)];unfold rN;omega
   rw[vG,aV];omega
 have h1:=key _ (zEb 6 l);have h2:=Vw 6 l;omega
noncomputable def ut (s:eX) (kd:Int) (ns:List Nd) (gen:Int) (keys:List Int):eX:=
 if kd=4∨kd=5 then (if (vV s).2=0 then (vV s).1 else s)
 else if kd=6 then vt s (xA (eV s.dY (gen%(s.dY.length:Int)).toNat) (keys.take 8))
 else if kd=7 then vt s (xx (eV s.dY (gen%(s.dY.length:Int)).toNat) 2)
 else vt s (xE (ze s) (D_ 6 ns))
noncomputable def Vx (s:eX) (x:oM):eX:=ut s (x.kind%8) (x.l.map (·.1)) x.gen x.keys
noncomputable def wO (s:eX) (l:List oM):eX:=l.foldl Vx s
noncomputable def xR (l:List oM):eX:=wO Dj (l.take 8)
theorem kZ (l:List oM) (i:Nat) (h:i<l.length):wO Dj (l.take (i+1))=Vx (wO Dj (l.take i)) (kB l i):=by
 unfold wO kB;rw[cV,ax,aB h,dN]
 rfl
theorem zB8 {g:Gn} {m:Int} (h:(xx g m).1=0):(xx g m).2={g with mode:=m+1}:=by
 unfold xx at h ⊢
 split
 ·
  rename_i h1;rw[ah h1] at h
  split
  ·
   rfl
  rename_i h2;rw[ai h2] at h;cases h
 rename_i h1;rw[ai h1] at h;cases h
theorem zE5 {n:Nat} {s:eX} (h:jg n s) (kd:Int) (ns:List Nd) (gen:Int) (keys:List Int):jg (n+1) (ut s kd ns gen keys):=by
 have hg:eV s.dY (gen%(s.dY.length:Int)).toNat∈s.dY:=ti (by
  have h1:=h.v.len
  have h2:=Int.emod_lt_of_pos gen (show (0:Int)<(s.dY.length:Int) by omega)
  have h3:=Int.emod_nonneg gen (show (s.dY.length:Int)≠0 by omega)
  omega)
 unfold ut
 split
 ·
  have:=Y8 h 2 ns gen keys;unfold Nc at this;exact this
 split
 ·
  have:=Y8 h 3 ns gen keys;unfold Nc at this;exact this
 split
 ·
  unfold vt
  split
  ·
   rename_i hr;obtain ⟨h1,h2⟩:=hr;refine h.JO h2 ?_ ?_
   ·
    rw[zB8 h1];intro i hi;exact ak (h.len _ hg i hi) (by omega)
   rw[zB8 h1];have:=h.IC _ hg;dsimp only;omega
  exact h.up
 unfold vt
 split
 ·
  rename_i hr;obtain ⟨h1,h2⟩:=hr;have ht:=tg h.v;refine h.JO h2 ?_ ?_
  ·
   rw[kG h1];intro i hi;have:=wT (D_ 6 ns) _ (h.len _ ht) i hi;have:=Vw 6 ns;omega
  rw[kG h1,vI];have:=h.IC _ ht;have:=zLv ns;omega
 exact h.up
theorem tI (l:List oM):∀ i,i≤l.length→jg i (wO Dj (l.take i))
 |0,_=>zFv
 |i+1,h=>by
  rw[kZ l i (by omega)];exact zE5 (tI l i (by omega)) _ _ _ _
theorem zGk (l:List oM):jg 8 (xR l):=by
 have h1:∀ i j,i≤j→∀ s,jg i s→jg j s:=by
  intro i j hij;obtain ⟨d,rfl⟩:∃ d,j=i+d:=⟨j-i,by omega⟩
  clear hij
  induction d with
  |zero=>exact fun s h=>h
  |succ d ih=>exact fun s h=>(ih s h).up
 have h2:=tI (l.take 8) (l.take 8).length (ag _);rw[aS (ag _)] at h2;exact h1 _ 8 (by rw[ay];omega) _ h2
theorem zLg:xt Tryz.prog 74 85 5 56:=by
 obtain ⟨i,hi,hz,hs,hb⟩:=cm (P:=Tryz.prog) (e:=85) (z:=.agg #[.int .i64 0,.int .i64 0,.int .u64 0,.int .u32 0,.slice none 0 0]) (size:=5) (bytes:=56) (by kernel_rfl);exact ⟨Tryz.underlying74,by decide,i,_,hi,hz,hs,hb,rfl⟩
theorem zKs (qs:List (Rq×Value)) (i:Nat) (h:i<qs.length):(qs.take (i+1)).flatMap rF=(qs.take i).flatMap rF++rF (jV qs i):=by
 rw[cV,aB h,b7]
 congr 1
 unfold jV;rw[ax,aB h];simp
theorem zDW (v:Value) (qs:List (Rq×Value)) (w:World) (h:rG w v qs) (FF:qs.length≤1000000) :
  Calls Tryz.prog 24 #[v] w fun e w'=>∃ v',e=.returned v'∧w'.ownsRow w.heap.size 85 5 v' qs.length (qs.flatMap rF)∧Below w.heap.size w w':=by
 obtain ⟨a,cap,rfl,h1,h2⟩:=h.shape;have HQ:=zh h;have HT:=zh (zKs qs);have HE:=zh (show (qs.take qs.length).flatMap rF=qs.flatMap rF by rw[cB]);clear h;generalize hn:qs.length=n at *;clear hn
 go_enter Tryz.func24,Tryz.ntmps24
 go_wp2_with fail
 go_loopw [3,8] (fun ov iv W=>∃ i:Nat,iv=.int .i64 (i:Int)∧i≤n∧Hid (W.ownsRow w.heap.size 85 5 ov i ((qs.take i).flatMap rF))∧Hid (Below w.heap.size w W)) (fun _ iv _=>n-(intOf iv).toNat)
 case atStart=>exact ⟨0,rfl,aq _,zh (aT _ _ _ _),zh (aj _ _)⟩
 obtain ⟨i,rfl,hi,HO,HB⟩:=hrel;obtain ⟨oa,oc,sP,ho1,ho2,_⟩:=zH HO.out;subst sP
 by_cases hin:i<n
 ·
  have i1:(i:Int)<(n:Int):=by omega
  obtain ⟨qb,qo,e0,hd,c0,c1,c2,c3,c4⟩:=(HQ.out.below HB.out).at (j:=i) hin;subst e0;have hT:=HT.out i hin;obtain ⟨da,dc,Vy,_⟩:=hd.fK;rw[Vy] at c4;have hX:rF (jV qs i)=[.int .i64 (jV qs i).1.tk,.int .i64 (jV qs i).1.kind,.int .u64 ((jV qs i).1.key:Int),.int .u32 ((jV qs i).1.ck:Int),.slice da (jV qs i).1.data.length dc]:=by show [_,_,_,_,_]=_;rw[Vy]
  rw[hX] at hT;have K3:=zh hT;clear hX hT hd Vy;generalize (jV qs i).1.data.length=dn at *;generalize (jV qs i).1.tk=tk at *;generalize (jV qs i).1.kind=kd at *;generalize ((jV qs i).1.key:Int)=ky at *;generalize ((jV qs i).1.ck:Int)=ck at *;have hsz:w.heap.size≤wr.heap.size:=HB.out.size;have hb5:=(aj wr.heap.size wr).alloc (ag _) (.cells #[.int .i64 tk,.int .i64 kd,.int .u64 ky,.int .u32 ck,.slice da dn dc] 63);have HX:=zh (dZ.new wr #[.int .i64 tk,.int .i64 kd,.int .u64 ky,.int .u32 ck,.slice da dn dc] 63);have jN:=zh (zG HO.out hb5);have gH:=zh (HB.out.trans (hb5.mono hsz));have DM:=ak hsz hb5.size;clear hb5;go_upto_region 5 with fail;change Code.wp _ _ _ _ (wr.alloc (.cells #[.int .i64 tk,.int .i64 kd,.int .u64 ky,.int .u32 ck,.slice da dn dc] 63))
  generalize wr.alloc (.cells #[.int .i64 tk,.int .i64 kd,.int .u64 ky,.int .u32 ck,.slice da dn dc] 63)=w5 at *;have x0:=HX.out.cell (i:=0) rfl;have x1:=HX.out.cell (i:=1) rfl;have x2:=HX.out.cell (i:=2) rfl;have x3:=HX.out.cell (i:=3) rfl;have x4:=HX.out.cell (i:=4) rfl;clear c0 c1 c2 c3 c4 HB HO;have jr:=(aj w5.heap.size w5).alloc (ag _) (.cells #[.int .i64 tk,.int .i64 kd,.int .u64 ky,.int .u32 ck,.slice da dn dc] 85);have nr:=zh (zG jN.out jr);have iZ:=zh (gH.out.trans (jr.mono DM));have OQ:=ak DM jr.size;clear jr
  go_wp2_with (at_builtin;go_must (refine zP (n:=i) (m:=1) rfl (.tmp 12) (.tmp 24) 74 rfl zLg w.heap.size rfl nr.out rfl (Rd.jD w5.heap.size w5 rfl 5 [.int .i64 tk,.int .i64 kd,.int .u64 ky,.int .u32 ck,.slice da dn dc] 85 1 rfl (by decide)) (fun u hu=>by simp only[aX,aY,aZ] at hu;rcases hu with h|h|h|h|h<;>rw[h]<;>rfl) (by unfold maxLen;omega) (by omega) OQ ?_);intro v3 w7 ei eL hv3;clear hv3);have Cv:=zh (show w7.ownsRow w.heap.size 85 5 v3 (i+1) ((qs.take (i+1)).flatMap rF) by rw[K3.out];exact ei);have sY:=zh (zL iZ.out nr.out OQ eL);clear ei eL;go_wp2_with fail;exact ⟨⟨i+1,by go_num,by omega,Cv,sY⟩,by simp[intOf];omega⟩
 have i1:¬ (i:Int)<(n:Int):=by omega
 obtain rfl:i=n:=by omega
 go_wp2_with fail;go_ret;exact ⟨_,rfl,by rw[← HE.out];exact HO.out,HB.out⟩
end Go.Proofs.YtcgfilmmokmdjaaGreat
