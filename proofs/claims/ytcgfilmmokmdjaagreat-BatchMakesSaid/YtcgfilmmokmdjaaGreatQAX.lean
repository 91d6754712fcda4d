import Derived.Test.YtcgfilmmokmdjaaGreatBp
import Derived.Test.YtcgfilmmokmdjaaGreatQAT
import Derived.Test.YtcgfilmmokmdjaaGreatQAW
import Derived.Test.YtcgfilmmokmdjaaGreatQAC
import Derived.Laws.EntriesVeiled
set_option linter.all false
set_option maxRecDepth 100000
set_option maxHeartbeats 32000000
namespace Go.Proofs.YtcgfilmmokmdjaaGreat
open Go.RowKit
theorem zLj (s:eX) (a:Option Addr) (n c:Nat) (L:List GP) (W:World) (hr:fD W (.slice a n c) L) (hg:ep L=s.dY) (hl:fu 1000 s.dY) :
  Calls Tryz.prog 47 #[zO s.id s.lim s.ro a n c] W fun e w'=>e=.returned (.bool (zY s))∧Below W.heap.size W w':=by
 have h:=xD s.id s.lim s.ro a n c L W hr (xu (hg▸hl) (by decide));obtain ⟨i,l,r,g⟩:=s;dsimp only at hg h ⊢;subst hg;exact h
structure oA (W:World) (B:Nat) (P:fB) (kv:Value) (ks:List KP) (nv:Value) (es:List (Nd×Value)) (rv:Value):Prop where
 k:iu W B kv ks
 kk:iM ks=P.eu
 n:gm W B nv es
 nn:es.map (·.1)=P.needs
 r:W.ownsRow B 39 1 rv P.res.length (P.res.map tV)
theorem oA.gK {W W':World} {B b:Nat} {P:fB} {kv:Value} {ks:List KP} {nv:Value} {es:List (Nd×Value)} {rv:Value} (h:oA W B P kv ks nv es rv) (ho:gw W W' B b 71):oA W' B P kv ks nv es rv:=
 ⟨h.k.gK ho (by decide) (by decide),h.kk,h.n.gK ho (by decide) (by decide),h.nn,yp h.r ho (by decide)⟩
theorem oA.nil (W:World) (B:Nat) (s:eX):oA W B (wJ s) (.slice none 0 0) [] (.slice none 0 0) [] (.slice none 0 0):=
 ⟨⟨aT _ _ _ _,(fun p hp=>by cases hp),List.Pairwise.nil⟩,rfl,⟨aT _ _ _ _,(fun p hp=>by cases hp)⟩,rfl,aT _ _ _ _⟩
theorem vY {q:Rq} {r:List Rq} {P:fB} (h:(zm P q).1=true):tN (q::r) P=tN r (zm P q).2:=by
 show (if (zm P q).1=true then _ else _)=_
 rw[ah h]
theorem tt {q:Rq} {r:List Rq} {P:fB} (h:(zm P q).1=false):tN (q::r) P=(zm P q).2:=by
 show (if (zm P q).1=true then _ else _)=_
 rw[ai (by rw[h];decide)]
theorem Vh {K G:Nat}:∀ (l:List Rq) (P:fB),lL K G P.res.length P→P.res.length≤16→(tN l P).res.length≤16∧lL K G (tN l P).res.length (tN l P)
 |[],P,h,h1=>⟨h1,h⟩
 |q::r,P,h,h1=>by
  have h2:=k6 (q:=q) h;have h3:=(qR P q h1).1
  cases e:(zm P q).1
  ·
   rw[tt e];exact ⟨h3,h2⟩
  rw[vY e];exact Vh r _ h2 h3
abbrev wL (ey:Bool) (take:Int) (kv nv rv:Value):List (Nat×Value):=[(0,.bool ey),(1,.int .i64 take),(2,kv),(3,nv),(4,rv)]
theorem zEK {W:World} {b:Nat} {r0:Bool} {t0:Int} {k0 n0 v0:Value} (ey:Bool) (take:Int) (kv nv rv:Value) (h:dZ W b #[.bool r0,.int .i64 t0,k0,n0,v0] 71) (j:Nat) (u:Value) (hu:[Value.bool ey,.int .i64 take,kv,nv,rv][j]?=some u) :
  (pts W b (wL ey take kv nv rv)).cell? ⟨b,j,none⟩=some u:=by
 have h1:=dZ.sets (wL ey take kv nv rv) h;simp only[List.foldl_cons,List.foldl_nil,aK,aM,aJ] at h1;refine dZ.cell h1 ?_;rw[← Array.getElem?_toList];exact hu
theorem zCM (s:eX) (ga:Option Addr) (gn gc:Nat) (L:List GP) (qa:Option Addr) (qc:Nat) (qs:List (Rq×Value)) (w:World) (hr:fD w (.slice ga gn gc) L) (hg:ep L=s.dY) (hl:fu 700 s.dY) (rW:s.dY.length≤1000000)
  (hq:rG w (.slice qa qs.length qc) qs) (FF:qs.length≤1000000) (il:∀ p∈qs,p.1.data.length≤1000000) :
  Calls Tryz.prog 22 #[zO s.id s.lim s.ro ga gn gc,.slice qa qs.length qc] w fun e w'=>∃ kv ks nv es rv,e=.returned (.tuple #[.agg #[.bool (yT s (qs.map (·.1))).1.ey,.int .i64 ((yT s (qs.map (·.1))).1.res.length:Int),kv,nv,rv],.int .i64 (yT s (qs.map (·.1))).2])∧oA w' w.heap.size (yT s (qs.map (·.1))).1 kv ks nv es rv∧Below w.heap.size w w':=by
 have HV:=zh (fun W (hb:Below w.heap.size w W)=>zLj s ga gn gc L W (hr.below hb) hg (hl.mono (by decide)));have hb1:=(aj w.heap.size w).alloc (ag _) (.cells #[.int .i64 s.id,.int .i64 s.lim,.bool s.ro,.slice ga gn gc] 27);have hb2:=hb1.trans ((aj _ _).alloc hb1.size (.cells #[.bool false,.int .i64 0,.slice none 0 0,.slice none 0 0,.slice none 0 0] 71));have HX:=zh (dZ.new w #[.int .i64 s.id,.int .i64 s.lim,.bool s.ro,.slice ga gn gc] 27);have HY:=zh (dZ.new (w.alloc (.cells #[.int .i64 s.id,.int .i64 s.lim,.bool s.ro,.slice ga gn gc] 27)) #[.bool false,.int .i64 0,.slice none 0 0,.slice none 0 0,.slice none 0 0] 71);have fW:=zh (HX.out.below ((aj _ _).alloc (ag _) (.cells #[.bool false,.int .i64 0,.slice none 0 0,.slice none 0 0,.slice none 0 0] 71)))
 have Cg:w.heap.size<(w.alloc (.cells #[.int .i64 s.id,.int .i64 s.lim,.bool s.ro,.slice ga gn gc] 27)).heap.size:=HX.out.lt;have HB:=zh hb2;clear hb1 hb2 HX;have KL:(w.alloc (.cells #[.int .i64 s.id,.int .i64 s.lim,.bool s.ro,.slice ga gn gc] 27)).heap.size=w.heap.size+1:=by simp
 rw[KL] at HY Cg;clear KL
 go_enter Tryz.func22,Tryz.ntmps22
 go_upto_region 1 with fail;generalize DZ:w.heap.size+1=bc at *;generalize ((w.alloc (.cells #[.int .i64 s.id,.int .i64 s.lim,.bool s.ro,.slice ga gn gc] 27)).alloc (.cells #[.bool false,.int .i64 0,.slice none 0 0,.slice none 0 0,.slice none 0 0] 71))=w1 at *;have q0:=fW.out.cell (i:=0) rfl;have q1:=fW.out.cell (i:=1) rfl;have q2:=fW.out.cell (i:=2) rfl;have q3:=fW.out.cell (i:=3) rfl;go_wp2_with fail;refine (HV.out w1 HB.out).mono ?_;rintro e w2 ⟨rfl,hb2⟩;have eM:=zh (zA HB.out hb2);have Ox:=zh (fW.out.below hb2);have ig:=zh (HY.out.below hb2);clear hb2 q0 q1 q2 q3 fW HY HB HV;have Kk:w.heap.size≤bc:=bU Cg
 by_cases hv:zY s=true
 ·
  rw[hv];have nN:=zh (show yT s (qs.map (·.1))=(tN (qs.map (·.1)) (wJ s),0) by unfold yT;rw[ah hv]);have q0:=Ox.out.cell (i:=0) rfl;have q1:=Ox.out.cell (i:=1) rfl;have q2:=Ox.out.cell (i:=2) rfl;have q3:=Ox.out.cell (i:=3) rfl;go_upto_region 3 with fail
  go_cut [6] (fun pv wx=>pv=.pointer (some ⟨w2.heap.size,0,none⟩)∧wx=w2.alloc (.cells (tY s.id s.lim s.ro ga gn gc false (.slice none 0 0) (.slice none 0 0) (.slice none 0 0) 0) 145))
  case first =>
   go_wp2_with fail;go_meet
   case rel=>exact ⟨rfl,rfl⟩
  obtain ⟨rfl,rfl⟩:=hcut;have ew:=(aj w2.heap.size w2).alloc (ag _) (.cells (tY s.id s.lim s.ro ga gn gc false (.slice none 0 0) (.slice none 0 0) (.slice none 0 0) 0) 145);have pq:=zh (dZ.new w2 (tY s.id s.lim s.ro ga gn gc false (.slice none 0 0) (.slice none 0 0) (.slice none 0 0) 0) 145);have nu:=zh (ig.out.below ew);have hlo:w.heap.size≤w2.heap.size:=eM.out.size;have akR:bc<w2.heap.size:=ig.out.lt;have gy:=zh (eM.out.trans (ew.mono hlo));clear ew q0 q1 q2 q3 Ox ig;generalize Vi:w2.heap.size=b at *;clear Vi;generalize w2.alloc (.cells (tY s.id s.lim s.ro ga gn gc false (.slice none 0 0) (.slice none 0 0) (.slice none 0 0) 0) 145)=w3 at *
  have mZ:=zh (show sH w3 w.heap.size b (wJ s) from ⟨ga,gn,gc,L,.slice none 0 0,[],.slice none 0 0,[],.slice none 0 0,hlo,pq.out,⟨(gL.old hr (ag _)).below gy.out,hg,(oA.nil w3 w.heap.size s).k,rfl,(oA.nil w3 w.heap.size s).n,rfl,(oA.nil w3 w.heap.size s).r⟩⟩);have Bg:=zh (show lL 700 s.dY.length (wJ s).res.length (wJ s) from ⟨hl,ou.nil _,ag _,⟨cD _,cD _⟩,ag _⟩);have sU:=Vh (K:=700) (G:=s.dY.length) (qs.map (·.1)) (wJ s) Bg.out (aq _);obtain ⟨fg,Km⟩:∃ fg,tN (qs.map (·.1)) (wJ s)=fg:=⟨_,rfl⟩
  rw[Km] at nN sU;have iq:=zh (show tN ((qs.map (·.1)).drop 0) (wJ s)=fg from Km);have Pv:=zh sU;clear pq Km sU
  have Kn:=zh (fun k (hk:k<qs.length)=>show (qs.map (·.1)).drop k=(jV qs k).1::(qs.map (·.1)).drop (k+1) by
   rw[dO (by rw[aH];exact hk),dH]
   congr 1
   unfold jV
   rw[ax,aB hk];rfl)
  have DK:=zh (show (qs.map (·.1)).drop qs.length=[] from bY (by rw[aH];exact ag _));have HQ:=zh hq;have CX:=zh (fun k (hk:k<qs.length)=>il _ (Qj hk));clear hq il hr hg hl;generalize hnn:qs.length=n at *;clear hnn
  go_upto_block 0 with fail
  go_cut [18] (fun _ wx=>Hid (sH wx w.heap.size b fg)∧Hid (dZ wx bc #[.bool false,.int .i64 0,.slice none 0 0,.slice none 0 0,.slice none 0 0] 71)∧Hid (fw w.heap.size w wx))
  case first =>
   go_wp2_with fail
   go_loopw [18] (fun iv W=>∃ (k:Nat) (P:fB),iv=.int .i64 (k:Int)∧k≤n∧Hid (tN ((qs.map (·.1)).drop k) P=fg)∧P.res.length≤16∧Hid (lL 700 s.dY.length P.res.length P)∧Hid (sH W w.heap.size b P)∧Hid (dZ W bc #[.bool false,.int .i64 0,.slice none 0 0,.slice none 0 0,.slice none 0 0] 71)∧Hid (fw w.heap.size w W)) (fun iv _=>n-(intOf iv).toNat)
   case atStart=>exact ⟨0,wJ s,rfl,aq _,iq,aq _,Bg,mZ,nu,zh (fw.of gy.out (ag _))⟩
   clear Bg mZ iq nu gy;obtain ⟨k,P,rfl,hk,iq,oH,HI,HP,HY,HB⟩:=hrel
   by_cases hlt:k<n
   ·
    have j1:(k:Int)<(n:Int):=by omega
    obtain ⟨qb,qo,e0,hd,c0,c1,c2,c3,c4⟩:=(HQ.out.below HB.out.b).at (j:=k) hlt;subst e0;have Ko:=Kn.out k hlt;have F0:=iq.out;rw[Ko] at F0;have hdk:=CX.out k hlt;generalize (jV qs k).1=q at *;generalize (jV qs k).2=dv at *;obtain ⟨da,dc,rfl,_,_⟩:=hd.fK;have jf:=zh F0;obtain ⟨nP,nJ,nQ,L1,Cb,gM,Ad,iX,Ae,jy,iY,hR1⟩:=HP.out;have hes:iX.length≤900:=by
     have h:=aO List.length hR1.nn;rw[aH] at h;have:=HI.out.e;omega
    have Ah:w.heap.size≤wr.heap.size:=HB.out.size;have sr:=zh (fun W (hb:Below wr.heap.size wr W)=>zHS jy (iY.below hb) (hR1.below hb) (HI.out.l.mono (by omega)) (ak Ah hb.size) hes (by have h:=HI.out.b;omega) (8*P.res.length) (by omega) HI.out.k (ak HI.out.g rW) q q.tk q.kind (q.key:Int) (q.ck:Int) da q.data.length dc (iE.below hd hb) hdk oH rfl rfl rfl);have ew:=(aj wr.heap.size wr).alloc (ag _) (.cells #[.int .i64 q.tk,.int .i64 q.kind,.int .u64 (q.key:Int),.int .u32 (q.ck:Int),.slice da q.data.length dc] 85);have Fj:=zh (sr.out _ ew);have HX:=zh (dZ.new wr #[.int .i64 q.tk,.int .i64 q.kind,.int .u64 (q.key:Int),.int .u32 (q.ck:Int),.slice da q.data.length dc] 85);have gH:=zh (HB.out.step ew Ah);have su:=zh (HY.out.below ew);have mA:=zh (k6 (q:=q) HI.out);have Ct:=(qR P q oH).1
    have jG:=zh (fun h=>(vY (q:=q) (r:=(qs.map (·.1)).drop (k+1)) (P:=P) h).symm.trans jf.out);have Kq:=zh (fun h=>(tt (q:=q) (r:=(qs.map (·.1)).drop (k+1)) (P:=P) h).symm.trans jf.out);clear ew iY hR1 hes hd Ko F0 jf iq HP HI sr hdk;go_upto_region 7 with fail;change Code.wp _ _ _ _ (wr.alloc (.cells #[.int .i64 q.tk,.int .i64 q.kind,.int .u64 (q.key:Int),.int .u32 (q.ck:Int),.slice da q.data.length dc] 85));generalize wr.alloc (.cells #[.int .i64 q.tk,.int .i64 q.kind,.int .u64 (q.key:Int),.int .u32 (q.ck:Int),.slice da q.data.length dc] 85)=w5 at *;have x0:=HX.out.cell (i:=0) rfl;have x1:=HX.out.cell (i:=1) rfl;have x2:=HX.out.cell (i:=2) rfl;have x3:=HX.out.cell (i:=3) rfl;have x4:=HX.out.cell (i:=4) rfl;generalize (zm P q).2=P2 at *;obtain ⟨pb,hpb⟩:∃ pb,(zm P q).1=pb:=⟨_,rfl⟩
    rw[hpb] at Fj jG Kq;clear hpb;go_wp2_with fail;refine Fj.out.mono ?_;rintro e w6 ⟨rfl,E3,jr⟩;have Qx:=zh E3;have iZ:=zh (gH.out.trans jr);have sw:=zh (jr.box su.out (by decide));clear E3 jr HX Fj gH HB HY su x0 x1 x2 x3 x4 c0 c1 c2 c3 c4
    cases pb
    ·
     have B4:=zh (show sH w6 w.heap.size b fg by rw[← Kq.out rfl];exact Qx.out);go_wp2_with fail;go_meet
     case rel=>exact ⟨B4,sw,iZ⟩
    have iq:=zh (jG.out rfl);go_wp2_with fail;exact ⟨⟨k+1,P2,by go_num,by omega,iq,Ct,mA,Qx,sw,iZ⟩,by simp[intOf];omega⟩
   have j1:¬ (k:Int)<(n:Int):=by omega
   obtain rfl:k=n:=by omega
   have B4:=zh (show sH wr w.heap.size b fg by have h:=iq.out;rw[DK.out] at h;rw[← h];exact HP.out);go_wp2_with fail;go_meet
   case rel=>exact ⟨B4,HY,HB⟩
  obtain ⟨HP,HY,HB⟩:=hcut;generalize wc=v1 at *;obtain ⟨nP,nJ,nQ,L1,Cb,gM,Ad,iX,Ae,jy,iY,hR1⟩:=HP.out;have akS:=Pv.out.1;obtain ⟨ra,rc,Ke,hr1,hr2,_⟩:=zH hR1.r;subst Ke;obtain ⟨ka,kc,G9,_,_,_⟩:=zH hR1.k.row;obtain ⟨na,nc,G6,_,_,_⟩:=zH hR1.n.row;subst G9 G6;have q8:=iY.cell (i:=8) rfl;have q5:=iY.cell (i:=5) rfl;have f5:=iY.frozen 5;have Kb:=iY.set 5 (.int .i64 (fg.res.length:Int));simp only[aK,aM,aJ] at Kb;have ni:=zh Kb;have gN:=zh (hR1.gK (gw.pts jy ⟨_,_,iY⟩ [(5,.int .i64 (fg.res.length:Int))]));have eM:=zh (HB.out.pts jy [(5,.int .i64 (fg.res.length:Int))] ⟨_,_,iY⟩ (by decide));have ig:=zh (dZ.eE (c:=b) (by omega) [(5,.int .i64 (fg.res.length:Int))] HY.out);change Hid (mo (v1.setCell ⟨b,5,none⟩ (.int .i64 (fg.res.length:Int))) _ _ _ _ _ _ _ _ _ _ _) at gN
  change Hid (fw _ _ (v1.setCell ⟨b,5,none⟩ (.int .i64 (fg.res.length:Int)))) at eM;change Hid (dZ (v1.setCell ⟨b,5,none⟩ (.int .i64 (fg.res.length:Int))) _ _ _) at ig;clear iY hR1 Kb HP HY HB;go_upto_region 10 with fail;change Code.wp _ _ _ _ (v1.setCell ⟨b,5,none⟩ (.int .i64 (fg.res.length:Int)));generalize v1.setCell ⟨b,5,none⟩ (.int .i64 (fg.res.length:Int))=v2 at *;clear q8 q5 f5;have q4:=ni.out.cell (i:=4) rfl;have q5:=ni.out.cell (i:=5) rfl;have q6:=ni.out.cell (i:=6) rfl;have q7:=ni.out.cell (i:=7) rfl;have q8:=ni.out.cell (i:=8) rfl;have y0:=ig.out.cell (i:=0) rfl;have y1:=ig.out.cell (i:=1) rfl;have y2:=ig.out.cell (i:=2) rfl;have y3:=ig.out.cell (i:=3) rfl;have y4:=ig.out.cell (i:=4) rfl;have yf:=ig.out.frozen;have hne:¬ b=bc:=by omega
  have akT:¬ bc=b:=by omega
  go_wp2_with fail;change bodyPost _ _ _ _ _ (pts v2 bc (wL fg.ey (fg.res.length:Int) (.slice ka gM.length kc) (.slice na iX.length nc) (.slice ra fg.res.length rc)));have hby:=zEK fg.ey (fg.res.length:Int) (.slice ka gM.length kc) (.slice na iX.length nc) (.slice ra fg.res.length rc) ig.out;have eD:=zh (zD (B:=w.heap.size) (b:=bc) Kk (wL fg.ey (fg.res.length:Int) (.slice ka gM.length kc) (.slice na iX.length nc) (.slice ra fg.res.length rc)) eM.out.b);have HPo:=zh ((show oA v2 w.heap.size fg (.slice ka gM.length kc) gM (.slice na iX.length nc) iX (.slice ra fg.res.length rc) from ⟨gN.out.k,gN.out.kk,gN.out.n,gN.out.nn,gN.out.r⟩).gK (gw.pts Kk ⟨_,_,ig.out⟩ (wL fg.ey (fg.res.length:Int) (.slice ka gM.length kc) (.slice na iX.length nc) (.slice ra fg.res.length rc))))
  generalize pts v2 bc (wL fg.ey (fg.res.length:Int) (.slice ka gM.length kc) (.slice na iX.length nc) (.slice ra fg.res.length rc))=V at *;exact au (v:=.tuple #[.agg #[.bool fg.ey,.int .i64 (fg.res.length:Int),.slice ka gM.length kc,.slice na iX.length nc,.slice ra fg.res.length rc],.int .i64 0]) (by simp[results,Tryz.results22,go_sem,hby 0 _ rfl,hby 1 _ rfl,hby 2 _ rfl,hby 3 _ rfl,hby 4 _ rfl]) rfl ⟨_,gM,_,iX,_,by rw[nN.out],by rw[nN.out];exact HPo.out,eD.out⟩
 have hvf:zY s=false:=by simpa using hv
 have nN:=zh (show yT s (qs.map (·.1))=(wJ xh,1) by unfold yT;rw[ai hv]);rw[hvf];have y0:=ig.out.cell (i:=0) rfl;have y1:=ig.out.cell (i:=1) rfl;have y2:=ig.out.cell (i:=2) rfl;have y3:=ig.out.cell (i:=3) rfl;have y4:=ig.out.cell (i:=4) rfl;have yf:=ig.out.frozen;go_wp2_with fail;change bodyPost _ _ _ _ _ (pts w2 bc (wL false 0 (.slice none 0 0) (.slice none 0 0) (.slice none 0 0)));have hby:=zEK false 0 (.slice none 0 0) (.slice none 0 0) (.slice none 0 0) ig.out;have eD:=zh (zD (B:=w.heap.size) (b:=bc) Kk (wL false 0 (.slice none 0 0) (.slice none 0 0) (.slice none 0 0)) eM.out);generalize pts w2 bc (wL false 0 (.slice none 0 0) (.slice none 0 0) (.slice none 0 0))=V at *
 exact au (v:=.tuple #[.agg #[.bool false,.int .i64 0,.slice none 0 0,.slice none 0 0,.slice none 0 0],.int .i64 1]) (by simp[results,Tryz.results22,go_sem,hby 0 _ rfl,hby 1 _ rfl,hby 2 _ rfl,hby 3 _ rfl,hby 4 _ rfl]) rfl ⟨_,[],_,[],_,by rw[nN.out];rfl,by rw[nN.out];exact oA.nil _ _ _,eD.out⟩
theorem zKJ (s:eX) (a:Option Addr) (n c:Nat) (L:List GP) (W:World) (hr:fD W (.slice a n c) L) (hg:ep L=s.dY) (hl:fu 1000 s.dY) :
  Calls Tryz.prog 76 #[zO s.id s.lim s.ro a n c] W fun e w'=>e=.returned (.bool (zY s))∧Below W.heap.size W w':=by
 have h:=zz s.id s.lim s.ro a n c L W hr (xu (hg▸hl) (by decide));obtain ⟨i,l,r,g⟩:=s;dsimp only at hg h ⊢;subst hg;exact h
structure mI (W:World) (B:Nat) (P:fB) (kv:Value) (ks:List KP) (nv:Value) (es:List (Nd×Value)) (rv:Value):Prop where
 k:ic W B kv ks
 kk:iM ks=P.eu
 n:gm W B nv es
 nn:es.map (·.1)=P.needs
 r:W.ownsRow B 39 1 rv P.res.length (P.res.map tV)
theorem mI.gK {W W':World} {B b:Nat} {T:TypeId} {P:fB} {kv:Value} {ks:List KP} {nv:Value} {es:List (Nd×Value)} {rv:Value} (h:mI W B P kv ks nv es rv) (ho:gw W W' B b T) (h1:103≠T) (h2:24≠T) (h3:56≠T) (h4:5≠T) (h5:39≠T):mI W' B P kv ks nv es rv:=
 ⟨h.k.gK ho h1 h2,h.kk,h.n.gK ho h3 h4,h.nn,yp h.r ho h5⟩
theorem mI.below {W W':World} {B:Nat} {P:fB} {kv:Value} {ks:List KP} {nv:Value} {es:List (Nd×Value)} {rv:Value} (h:mI W B P kv ks nv es rv) (hb:Below W.heap.size W W'):mI W' B P kv ks nv es rv:=
 ⟨h.k.below hb,h.kk,h.n.below hb,h.nn,zG h.r hb⟩
theorem mI.nil (W:World) (B:Nat) (s:eX):mI W B (wJ s) (.slice none 0 0) [] (.slice none 0 0) [] (.slice none 0 0):=
 ⟨⟨aT _ _ _ _,(fun p hp=>by cases hp),List.Pairwise.nil⟩,rfl,⟨aT _ _ _ _,(fun p hp=>by cases hp)⟩,rfl,aT _ _ _ _⟩
theorem px.pln {W:World} {B:Nat} {P:fB} {ga:Option Addr} {gn gc:Nat} {L:List GP} {kv:Value} {ks:List KP} {nv:Value} {es:List (Nd×Value)} {rv:Value} (h:px W B P ga gn gc L kv ks nv es rv):mI W B P kv ks nv es rv:=⟨h.k,h.kk,h.n,h.nn,h.r⟩
theorem zIO {P:fB} {q:Rq} (h:(zm P q).1=false):(zm P q).2.res=P.res:=by
 unfold zm at h ⊢
 split
 ·
  rfl
 rename_i h0;rw[ai h0] at h
 split
 ·
  rename_i h1;rw[ah h1] at h
  split
  ·
   rfl
  rename_i h2;rw[ai h2] at h
  split
  ·
   rename_i h3;rw[ah h3] at h
   split
   ·
    rfl
   rename_i h4;rw[ai h4] at h;cases h
  rename_i h3;rw[ai h3] at h;cases h
 rename_i h1;rw[ai h1] at h
 split
 ·
  rename_i h2;rw[ah h2] at h
  split
  ·
   rename_i h3;rw[ah h3] at h
   split
   ·
    rfl
   rename_i h4;rw[ai h4] at h;cases h
  rename_i h3;rw[ai h3] at h;cases h
 rename_i h2;rw[ai h2] at h;cases h
theorem zH2 {r:List Rq} {P:fB} (h:P.res.length=16):tN r P=P:=by
 cases r with
 |nil=>rfl
 |cons q r=>rw[tt (by rw[qu h]),qu h]
theorem zIw (w:World) (i l:Int) (r:Bool) (a:Option Addr) (n c:Nat) (t u:TypeId):∃ W,((w.alloc (.cells (zK i l r a n c) t)).alloc (.cells #[.bool false,.int .i64 0,.slice none 0 0,.slice none 0 0,.slice none 0 0] u)).alloc (.cells (zK 0 0 false none 0 0) t)=W∧dZ W w.heap.size (zK i l r a n c) t∧dZ W (w.heap.size+1) #[.bool false,.int .i64 0,.slice none 0 0,.slice none 0 0,.slice none 0 0] u∧dZ W (w.heap.size+1+1) (zK 0 0 false none 0 0) t∧Below w.heap.size w W:=by
 have h1:=dZ.new w (zK i l r a n c) t;have b1:=zM w i l r a n c t;generalize hw1:w.alloc (.cells (zK i l r a n c) t)=w1 at *;have e1:w1.heap.size=w.heap.size+1:=by rw[← hw1,cO]
 have h2:=dZ.new w1 #[.bool false,.int .i64 0,.slice none 0 0,.slice none 0 0,.slice none 0 0] u;have b2:=(aj w1.heap.size w1).alloc (ag _) (.cells #[.bool false,.int .i64 0,.slice none 0 0,.slice none 0 0,.slice none 0 0] u);generalize hw2:w1.alloc (.cells #[.bool false,.int .i64 0,.slice none 0 0,.slice none 0 0,.slice none 0 0] u)=w2 at *;have e2:w2.heap.size=w.heap.size+1+1:=by rw[← hw2,cO,e1]
 have h3:=dZ.new w2 (zK 0 0 false none 0 0) t;have b3:=zM w2 0 0 false none 0 0 t;rw[e1] at h2;rw[e2] at h3;exact ⟨_,rfl,(h1.below b2).below b3,h2.below b3,h3,zA (zA b1 b2) b3⟩
structure F2 (ps:List (Nat×Value)) (W0 W1:World) (L:Nat→Bool) (f:Nat→Value) (W:World):Prop where
 jm:∀ q∈ps,L q.1=true→f q.1=q.2
 s0:L 8=false→W=W0
 s1:L 8=true→W=W1
theorem F2.start {ps:List (Nat×Value)} (W0 W1:World) (f:Nat→Value):F2 ps W0 W1 (fun _=>false) f W0:=⟨(fun _ _ h=>by cases h),(fun _=>rfl),(fun h=>by cases h)⟩
theorem F2.pure {ps:List (Nat×Value)} {W0 W1 W:World} {L:Nat→Bool} {f:Nat→Value} (h:F2 ps W0 W1 L f W) {i:Nat} {v:Value} (h8:8≠i) (hp:∀ q∈ps,q.1=i→v=q.2):F2 ps W0 W1 (nZ L i) (xB f i v) W:=by
 refine ⟨fun q hq hL=>?_,?_,?_⟩
 ·
  by_cases e:q.1=i
  ·
   rw[e,uO];exact hp q hq e
  rw[yw e];rw[zN e] at hL;exact h.jm q hq hL
 ·
  rw[zN h8];exact h.s0
 rw[zN h8];exact h.s1
theorem F2.store {ps:List (Nat×Value)} {W0 W1 W:World} {L:Nat→Bool} {f:Nat→Value} (h:F2 ps W0 W1 L f W) (hp:∀ q∈ps,q.1≠8) (v:Value):F2 ps W0 W1 (nZ L 8) (xB f 8 v) W1:=by
 refine ⟨fun q hq hL=>?_,fun e=>?_,fun _=>rfl⟩
 ·
  rw[yw (hp q hq)];rw[zN (hp q hq)] at hL;exact h.jm q hq hL
 rw[uP] at e;cases e
theorem fc.box0 {B c:Nat} {w W:World} (hB:B≤c) (hc:w.heap.size≤c) (h:fc B w W) (vs:List (Nat×Value)):fc B w (Go.Proofs.YtcgfilmmokmdjaaGreat.pts W c vs):=by
 refine ⟨zD hB vs h.b,fun i cs T f h1 hT=>?_⟩;have hi:=(Array.getElem?_eq_some_iff.1 h1).1;have h2:=h.k i cs T f h1 hT;have hb:=(zD (B:=c) (ag c) vs (aj c W)).block i (by omega);rw[hb];exact h2
def MdR (w0 w W:World) (M:fB×Int) (e:Ending):Prop:=∃ ga gn gc kv ks nv es rv,e=.returned (.tuple #[.agg #[.bool M.1.ey,.int .i64 (M.1.res.length:Int),kv,nv,rv],zO M.1.t.id M.1.t.lim M.1.t.ro ga gn gc,.int .i64 M.2])∧mI W w0.heap.size M.1 kv ks nv es rv∧fc w0.heap.size w W
theorem zHt (s:eX) (ga:Option Addr) (gn gc:Nat) (L:List GP) (qa:Option Addr) (qc:Nat) (qs:List (Rq×Value)) (w0 w:World) (hw0:Below w0.heap.size w0 w) (hr:fD w0 (.slice ga gn gc) L) (hg:ep L=s.dY) (hl:fu 600 s.dY)
  (hq:rG w0 (.slice qa qs.length qc) qs) (FF:qs.length≤1000000) (il:∀ p∈qs,p.1.data.length≤100000) :
  Calls Tryz.prog 68 #[zO s.id s.lim s.ro ga gn gc,.slice qa qs.length qc] w fun e w'=>MdR w0 w w' (yT s (qs.map (·.1))) e:=by
 have HV:=zh (fun W (hb:Below w.heap.size w W)=>zKJ s ga gn gc L W ((hr.below hw0).below hb) hg (hl.mono (by decide)))
 go_enter Tryz.func68,Tryz.ntmps68
 go_upto_region 1 with fail;change Code.wp _ _ _ _ (((w.alloc (.cells (zK s.id s.lim s.ro ga gn gc) 31)).alloc (.cells #[.bool false,.int .i64 0,.slice none 0 0,.slice none 0 0,.slice none 0 0] 78)).alloc (.cells (zK 0 0 false none 0 0) 31));obtain ⟨W1,hW1,hx1,hx2,hx3,fU⟩:=zIw w s.id s.lim s.ro ga gn gc 31 78;rw[hW1];have HX:=zh hx1;have HY:=zh hx2;have HZ:=zh hx3;have HB:=zh fU;have Cg:w.heap.size+1+1<W1.heap.size:=hx3.lt;clear hW1 hx1 hx2 hx3 fU;have q0:=HX.out.cell (i:=0) rfl;have q1:=HX.out.cell (i:=1) rfl;have q2:=HX.out.cell (i:=2) rfl;have q3:=HX.out.cell (i:=3) rfl;go_wp2_with fail;refine (HV.out W1 HB.out).mono ?_;rintro e w2 ⟨rfl,hb2⟩;replace HB:=zh (zA HB.out hb2);replace HX:=zh (HX.out.below hb2);replace HY:=zh (HY.out.below hb2);replace HZ:=zh (HZ.out.below hb2)
 have rQ:w.heap.size+1+1<w2.heap.size:=cM Cg hb2.size;clear hb2 q0 q1 q2 q3 HV Cg
 by_cases hv:zY s=true
 ·
  rw[hv];have nN:=zh (show yT s (qs.map (·.1))=(tN (qs.map (·.1)) (wJ s),0) by unfold yT;rw[ah hv]);have hV:=(zW s).1 hv;have q0:=HX.out.cell (i:=0) rfl;have q1:=HX.out.cell (i:=1) rfl;have q2:=HX.out.cell (i:=2) rfl;have q3:=HX.out.cell (i:=3) rfl;go_upto_region 4 with fail;change Code.wp _ _ _ _ (w2.alloc (.cells (Az s.id s.lim s.ro ga gn gc false 0 (.slice none 0 0) (.slice none 0 0) (.slice none 0 0) 0) 197));have ew:=(aj w2.heap.size w2).alloc (ag _) (.cells (Az s.id s.lim s.ro ga gn gc false 0 (.slice none 0 0) (.slice none 0 0) (.slice none 0 0) 0) 197)
  have pq:=zh (show AB (w2.alloc (.cells (Az s.id s.lim s.ro ga gn gc false 0 (.slice none 0 0) (.slice none 0 0) (.slice none 0 0) 0) 197)) w2.heap.size s.id s.lim s.ro ga gn gc false 0 (.slice none 0 0) (.slice none 0 0) (.slice none 0 0) 0 from dZ.new w2 (Az s.id s.lim s.ro ga gn gc false 0 (.slice none 0 0) (.slice none 0 0) (.slice none 0 0) 0) 197);have hlo:w.heap.size≤w2.heap.size:=HB.out.size;have gy:=zh (HB.out.trans (ew.mono hlo));replace HY:=zh (HY.out.below ew);replace HZ:=zh (HZ.out.below ew);clear ew q0 q1 q2 q3 HX HB;generalize Vi:w2.heap.size=b at *;clear Vi;generalize w2.alloc (.cells (Az s.id s.lim s.ro ga gn gc false 0 (.slice none 0 0) (.slice none 0 0) (.slice none 0 0) 0) 197)=w3 at *
  have mZ:=zh (show l7 w3 w0.heap.size b ((0:Nat):Int) (wJ s) from ⟨ga,gn,gc,L,.slice none 0 0,[],.slice none 0 0,[],.slice none 0 0,ak hw0.size hlo,pq.out,⟨((gB.old hr (ag _)).below hw0).below gy.out,hg,(mI.nil w3 w0.heap.size s).k,rfl,(mI.nil w3 w0.heap.size s).n,rfl,(mI.nil w3 w0.heap.size s).r⟩⟩);have Bg:=zh (show lL 600 s.dY.length (wJ s).res.length (wJ s) from ⟨hl,ou.nil _,ag _,⟨cD _,cD _⟩,ag _⟩);have HV0:=zh (show eT (wJ s).t∧sI (wJ s) from ⟨hV,⟨rfl,.inl (aq _),fun x hx=>by cases hx⟩⟩);obtain ⟨fg,Km⟩:∃ fg,tN (qs.map (·.1)) (wJ s)=fg:=⟨_,rfl⟩
  rw[Km] at nN;have iq:=zh (show tN ((qs.map (·.1)).drop 0) (wJ s)=fg from Km);clear pq Km
  have Kn:=zh (fun k (hk:k<qs.length)=>show (qs.map (·.1)).drop k=(jV qs k).1::(qs.map (·.1)).drop (k+1) by
   rw[dO (by rw[aH];exact hk),dH]
   congr 1
   unfold jV
   rw[ax,aB hk];rfl)
  have DK:=zh (show (qs.map (·.1)).drop qs.length=[] from bY (by rw[aH];exact ag _));have HQ:=zh hq;have Hw0:=zh hw0;have CX:=zh (fun k (hk:k<qs.length)=>il _ (Qj hk));clear hq il hr hg hl hV;generalize hnn:qs.length=n at *;clear hnn
  go_upto_block 0 with fail
  go_cut [8] (fun _ wx=>Hid (l7 wx w0.heap.size b (fg.res.length:Int) fg)∧Hid (dZ wx (w.heap.size+1) #[.bool false,.int .i64 0,.slice none 0 0,.slice none 0 0,.slice none 0 0] 78)∧Hid (dZ wx (w.heap.size+1+1) (zK 0 0 false none 0 0) 31)∧Hid (fc w0.heap.size w wx))
  case first =>
   go_wp2_with fail
   go_loopw [8] (fun iv W=>∃ (k:Nat) (P:fB),iv=.int .i64 (k:Int)∧k≤n∧P.res.length=k∧k≤16∧Hid (tN ((qs.map (·.1)).drop k) P=fg)∧Hid (eT P.t∧sI P)∧Hid (lL 600 s.dY.length P.res.length P)∧Hid (l7 W w0.heap.size b (k:Int) P)∧Hid (dZ W (w.heap.size+1) #[.bool false,.int .i64 0,.slice none 0 0,.slice none 0 0,.slice none 0 0] 78)∧Hid (dZ W (w.heap.size+1+1) (zK 0 0 false none 0 0) 31)∧Hid (fc w0.heap.size w W)) (fun iv _=>n-(intOf iv).toNat)
   case atStart=>exact ⟨0,wJ s,rfl,aq _,rfl,aq _,iq,HV0,Bg,mZ,HY,HZ,zh (fc.of gy.out hw0.size)⟩
   clear Bg mZ iq HY HZ gy HV0;obtain ⟨k,P,rfl,hk,hkr,ak3,iq,Hx,HI,HM,HY,HZ,HB⟩:=hrel;have Ah:w0.heap.size≤wr.heap.size:=ak hw0.size HB.out.size
   by_cases hlt:k<n
   ·
    have j1:(k:Int)<(n:Int):=by omega
    by_cases oH:k<16
    ·
     have j2:(k:Int)<16:=by omega
     obtain ⟨qb,qo,e0,hd,c0,c1,c2,c3,c4⟩:=(HQ.out.below (Hw0.out.trans HB.out.b)).at (j:=k) hlt;subst e0;have Ko:=Kn.out k hlt;have F0:=iq.out;rw[Ko] at F0;have hdk:=CX.out k hlt;obtain ⟨_,_,e9,H3,_⟩:=HQ.out.at (j:=k) hlt;clear e9;have Vj:fR wr w0.heap.size (jV qs k).2 (jV qs k).1.data:=g_.below (g_.old H3 (ag _)) (Hw0.out.trans HB.out.b);generalize (jV qs k).1=q at *;generalize (jV qs k).2=dv at *;obtain ⟨da,dc,rfl,_,_⟩:=hd.fK;have Ek:fR wr w0.heap.size (.slice da q.data.length dc) q.data:=Vj;have mA:=zh (k6 (q:=q) HI.out);have QN:=zh (show eT (zm P q).2.t∧sI (zm P q).2 from ⟨(zJ6 Hx.out.1 q).v,zHz Hx.out.1 Hx.out.2 q⟩);have hl2:=qR P q (by omega);have hno:=zIO (P:=P) (q:=q);have jG:=zh (fun h=>(vY (q:=q) (r:=(qs.map (·.1)).drop (k+1)) (P:=P) h).symm.trans F0)
     have Kq:=zh (fun h=>(tt (q:=q) (r:=(qs.map (·.1)).drop (k+1)) (P:=P) h).symm.trans F0);have hib:=HI.out.b;have hie:=HI.out.e
     by_cases oD:q.kind=1
     ·
      have D9:=zh (zHr HM.out Ah (HI.out.l.mono (by omega)) Hx.out.2 (by omega) (by omega) (by omega) (by rw[hkr]) q oD q.tk q.kind (q.key:Int) (q.ck:Int) da q.data.length dc rfl rfl Ek rfl hdk);have e1:(q.kind==1)=true:=by simp[oD]
      clear oD;clear F0 Ko hd Ek iq Hx HI hdk;obtain ⟨pb,hpb⟩:∃ pb,(zm P q).1=pb:=⟨_,rfl⟩
      rw[hpb] at D9 jG Kq hl2 hno;generalize (zm P q).2=P2 at *;clear hpb;go_wp2_with fail;refine D9.out.mono ?_;rintro e w6 ⟨rfl,E3,jr⟩;have F3:=zh E3;have iZ:=zh (HB.out.trans jr);have sw:=zh (jr.box HY.out (by decide));have F4:=zh (jr.box HZ.out (by decide));clear E3 jr D9 HB HY HZ HM c0 c1 c2 c3 c4
      cases pb
      ·
       have B4:=zh (show l7 w6 w0.heap.size b (fg.res.length:Int) fg by
        rw[← Kq.out rfl,hno rfl,hkr];exact F3.out)
       go_wp2_with fail;go_meet
       case rel=>exact ⟨B4,sw,F4,iZ⟩
      have iq:=zh (jG.out rfl);have hr2:P2.res.length=k+1:=by rw[hl2.2.2 rfl,hkr]
      obtain ⟨nP,nJ,nQ,L1,Cb,gM,Ad,iX,Ae,jy,iY,hR1⟩:=F3.out;have q5:=iY.cell (i:=5) rfl;have f5:=iY.frozen 5
      have Oy:=zh (show l7 (w6.setCell ⟨b,5,none⟩ (.int .i64 ((k:Int)+1))) w0.heap.size b ((k+1:Nat):Int) P2 from by
       have h:=iY.set 5 (.int .i64 ((k:Int)+1))
       simp only[aK,aM,aJ] at h
       rw[show ((k+1:Nat):Int)=(k:Int)+1 by omega]
       exact ⟨nP,nJ,nQ,L1,Cb,gM,Ad,iX,Ae,jy,h,hR1.gK (gw.pts jy ⟨_,_,iY⟩ [(5,.int .i64 ((k:Int)+1))])⟩)
      have sY:=zh (show fc w0.heap.size w (w6.setCell ⟨b,5,none⟩ (.int .i64 ((k:Int)+1))) from iZ.out.pts jy [(5,.int .i64 ((k:Int)+1))] ⟨_,_,iY⟩ (by decide));have o_:=zh (show dZ (w6.setCell ⟨b,5,none⟩ (.int .i64 ((k:Int)+1))) (w.heap.size+1) #[.bool false,.int .i64 0,.slice none 0 0,.slice none 0 0,.slice none 0 0] 78 from dZ.eE (c:=b) (by omega) [(5,.int .i64 ((k:Int)+1))] sw.out);have Oz:=zh (show dZ (w6.setCell ⟨b,5,none⟩ (.int .i64 ((k:Int)+1))) (w.heap.size+1+1) (zK 0 0 false none 0 0) 31 from dZ.eE (c:=b) (by omega) [(5,.int .i64 ((k:Int)+1))] F4.out);clear iY hR1 F3 iZ sw F4;go_wp2_with fail;exact ⟨⟨k+1,P2,by go_num,by omega,hr2,by omega,iq,QN,mA,Oy,o_,Oz,sY⟩,by simp[intOf];omega⟩
     by_cases hk2:q.kind=2
     ·
      have D9:=zh (zFf HM.out Ah (HI.out.l.mono (by omega)) Hx.out.1 Hx.out.2 (by omega) (by omega) (8*P.res.length) (by omega) HI.out.k (by omega) q hk2 q.tk q.kind (q.key:Int) (q.ck:Int) da q.data.length dc rfl rfl);have e1:(q.kind==1)=false:=by simp[oD]
      have e2:(q.kind==2)=true:=by simp[hk2]
      clear oD hk2;clear F0 Ko hd Ek iq Hx HI hdk;obtain ⟨pb,hpb⟩:∃ pb,(zm P q).1=pb:=⟨_,rfl⟩
      rw[hpb] at D9 jG Kq hl2 hno;generalize (zm P q).2=P2 at *;clear hpb;go_wp2_with fail;refine D9.out.mono ?_;rintro e w6 ⟨rfl,E3,jr⟩;have F3:=zh E3;have iZ:=zh (HB.out.trans jr);have sw:=zh (jr.box HY.out (by decide));have F4:=zh (jr.box HZ.out (by decide));clear E3 jr D9 HB HY HZ HM c0 c1 c2 c3 c4
      cases pb
      ·
       have B4:=zh (show l7 w6 w0.heap.size b (fg.res.length:Int) fg by
        rw[← Kq.out rfl,hno rfl,hkr];exact F3.out)
       go_wp2_with fail;go_meet
       case rel=>exact ⟨B4,sw,F4,iZ⟩
      have iq:=zh (jG.out rfl);have hr2:P2.res.length=k+1:=by rw[hl2.2.2 rfl,hkr]
      obtain ⟨nP,nJ,nQ,L1,Cb,gM,Ad,iX,Ae,jy,iY,hR1⟩:=F3.out;have q5:=iY.cell (i:=5) rfl;have f5:=iY.frozen 5
      have Oy:=zh (show l7 (w6.setCell ⟨b,5,none⟩ (.int .i64 ((k:Int)+1))) w0.heap.size b ((k+1:Nat):Int) P2 from by
       have h:=iY.set 5 (.int .i64 ((k:Int)+1))
       simp only[aK,aM,aJ] at h
       rw[show ((k+1:Nat):Int)=(k:Int)+1 by omega]
       exact ⟨nP,nJ,nQ,L1,Cb,gM,Ad,iX,Ae,jy,h,hR1.gK (gw.pts jy ⟨_,_,iY⟩ [(5,.int .i64 ((k:Int)+1))])⟩)
      have sY:=zh (show fc w0.heap.size w (w6.setCell ⟨b,5,none⟩ (.int .i64 ((k:Int)+1))) from iZ.out.pts jy [(5,.int .i64 ((k:Int)+1))] ⟨_,_,iY⟩ (by decide));have o_:=zh (show dZ (w6.setCell ⟨b,5,none⟩ (.int .i64 ((k:Int)+1))) (w.heap.size+1) #[.bool false,.int .i64 0,.slice none 0 0,.slice none 0 0,.slice none 0 0] 78 from dZ.eE (c:=b) (by omega) [(5,.int .i64 ((k:Int)+1))] sw.out);have Oz:=zh (show dZ (w6.setCell ⟨b,5,none⟩ (.int .i64 ((k:Int)+1))) (w.heap.size+1+1) (zK 0 0 false none 0 0) 31 from dZ.eE (c:=b) (by omega) [(5,.int .i64 ((k:Int)+1))] F4.out);clear iY hR1 F3 iZ sw F4;go_wp2_with fail;exact ⟨⟨k+1,P2,by go_num,by omega,hr2,by omega,iq,QN,mA,Oy,o_,Oz,sY⟩,by simp[intOf];omega⟩
     have e1:(q.kind==1)=false:=by simp[oD]
     have e2:(q.kind==2)=false:=by simp[hk2]
     have hpl:=zAU (P:=P) (q:=q) (by omega) oD hk2;clear oD hk2 hd Ek Hx HI hdk F0 Ko hl2 hno;have iq:=zh (jG.out (by rw[hpl]));have hr2:(more P 1).res.length=k+1:=by rw[zDr,hkr]
     rw[hpl] at iq QN mA;have ak4:P.res.length≤16:=by omega
     clear hpl hkr;obtain ⟨ga0,ix,gc0,L0,kv0,ks0,nv0,es0,rv0,Kr,Vk,Ks⟩:=HM.out;obtain ⟨ra0,rc0,Vl,ala,alb,_⟩:=zH Ks.r;subst Vl;have q8:=Vk.cell (i:=8) rfl;have ew:=(aj wr.heap.size wr).alloc (ag _) (.cells #[.int .i64 1] 39);have oh:=zh (Vk.below ew);have jW:=zh (Ks.below ew);have mj:=zh (HB.out.step ew Ah);have HYa:=zh (HY.out.below ew);have OA:=zh (HZ.out.below ew);have gR:=zh jW.out.r;have o7:=ak Ah ew.size;clear ew Vk Ks HM HB HY HZ
     go_upto_region 14 with (at_builtin;go_must (refine zP (n:=P.res.length) (m:=1) rfl (.tmp 38) (.tmp 39) 69 rfl qt w0.heap.size rfl gR.out rfl (Rd.jD wr.heap.size wr rfl 1 [.int .i64 1] 39 1 rfl (by decide)) (fun u hu=>by simp only[aX,aY,aZ] at hu;rw[hu];rfl) (by unfold maxLen;omega) (by omega) o7 ?_);intro v3 w3 ei eL hv3;clear hv3;obtain ⟨oa,oc,ev,_,_,_⟩:=zH ei;subst ev;have gO:=oh.out.eY (fA.row gR.out eL (ag _)) (by decide);have c8:=gO.cell (i:=8) rfl;have f8:=gO.frozen 8);have DC:=fA.row gR.out eL (ag _);have jB:gw w3 (w3.setCell ⟨b,8,none⟩ (.slice oa (P.res.length+1) oc)) w0.heap.size b 197:=gw.pts Kr ⟨_,_,gO⟩ [(8,.slice oa (P.res.length+1) oc)]
     have F3:=zh (show l7 (w3.setCell ⟨b,8,none⟩ (.slice oa (P.res.length+1) oc)) w0.heap.size b (k:Int) (more P 1) from by
      have h:=gO.set 8 (.slice oa (P.res.length+1) oc)
      rw[Ln] at h
      exact ⟨ga0,ix,gc0,L0,kv0,ks0,nv0,es0,_,Kr,h,(jW.out.res 1 eL ei).1.gK jB⟩)
     have iZ:=zh (show fc w0.heap.size w (w3.setCell ⟨b,8,none⟩ (.slice oa (P.res.length+1) oc)) from (mj.out.own gR.out o7 eL (by decide)).pts Kr [(8,.slice oa (P.res.length+1) oc)] ⟨_,_,gO⟩ (by decide));have sw:=zh (show dZ (w3.setCell ⟨b,8,none⟩ (.slice oa (P.res.length+1) oc)) (w.heap.size+1) #[.bool false,.int .i64 0,.slice none 0 0,.slice none 0 0,.slice none 0 0] 78 from dZ.eE (c:=b) (by omega) [(8,.slice oa (P.res.length+1) oc)] (HYa.out.eY DC (by decide)));have F4:=zh (show dZ (w3.setCell ⟨b,8,none⟩ (.slice oa (P.res.length+1) oc)) (w.heap.size+1+1) (zK 0 0 false none 0 0) 31 from dZ.eE (c:=b) (by omega) [(8,.slice oa (P.res.length+1) oc)] (OA.out.eY DC (by decide)));clear ei eL gO jB DC c8 f8 q8 oh jW mj HYa OA gR;generalize w3.setCell ⟨b,8,none⟩ (.slice oa (P.res.length+1) oc)=w6 at *;generalize more P 1=P2 at *
     obtain ⟨nP,nJ,nQ,L1,Cb,gM,Ad,iX,Ae,jy,iY,hR1⟩:=F3.out;have q5:=iY.cell (i:=5) rfl;have f5:=iY.frozen 5
     have Oy:=zh (show l7 (w6.setCell ⟨b,5,none⟩ (.int .i64 ((k:Int)+1))) w0.heap.size b ((k+1:Nat):Int) P2 from by
      have h:=iY.set 5 (.int .i64 ((k:Int)+1))
      simp only[aK,aM,aJ] at h
      rw[show ((k+1:Nat):Int)=(k:Int)+1 by omega]
      exact ⟨nP,nJ,nQ,L1,Cb,gM,Ad,iX,Ae,jy,h,hR1.gK (gw.pts jy ⟨_,_,iY⟩ [(5,.int .i64 ((k:Int)+1))])⟩)
     have sY:=zh (show fc w0.heap.size w (w6.setCell ⟨b,5,none⟩ (.int .i64 ((k:Int)+1))) from iZ.out.pts jy [(5,.int .i64 ((k:Int)+1))] ⟨_,_,iY⟩ (by decide));have o_:=zh (show dZ (w6.setCell ⟨b,5,none⟩ (.int .i64 ((k:Int)+1))) (w.heap.size+1) #[.bool false,.int .i64 0,.slice none 0 0,.slice none 0 0,.slice none 0 0] 78 from dZ.eE (c:=b) (by omega) [(5,.int .i64 ((k:Int)+1))] sw.out);have Oz:=zh (show dZ (w6.setCell ⟨b,5,none⟩ (.int .i64 ((k:Int)+1))) (w.heap.size+1+1) (zK 0 0 false none 0 0) 31 from dZ.eE (c:=b) (by omega) [(5,.int .i64 ((k:Int)+1))] F4.out);clear iY hR1 F3 iZ sw F4;go_wp2_with fail;exact ⟨⟨k+1,P2,by go_num,by omega,hr2,by omega,iq,QN,mA,Oy,o_,Oz,sY⟩,by simp[intOf];omega⟩
    have j2:¬ (k:Int)<16:=by omega
    have B4:=zh (show l7 wr w0.heap.size b (fg.res.length:Int) fg by
     have h:=iq.out
     rw[zH2 (by omega)] at h
     rw[← h,hkr];exact HM.out)
    go_wp2_with fail;go_meet
    case rel=>exact ⟨B4,HY,HZ,HB⟩
   have j1:¬ (k:Int)<(n:Int):=by omega
   obtain rfl:k=n:=by omega
   have B4:=zh (show l7 wr w0.heap.size b (fg.res.length:Int) fg by
    have h:=iq.out
    rw[DK.out] at h
    rw[← h]
    show l7 _ _ _ (P.res.length:Int) P
    rw[hkr];exact HM.out)
   go_wp2_with fail;go_meet
   case rel=>exact ⟨B4,HY,HZ,HB⟩
  obtain ⟨HM,HY,HZ,HB⟩:=hcut;generalize wc=v1 at *;obtain ⟨nP,nJ,nQ,L1,Cb,gM,Ad,iX,Ae,jy,iY,hR1⟩:=HM.out;obtain ⟨ra,rc,Ke,_⟩:=zH hR1.r;obtain ⟨ka,kc,G9,_⟩:=zH hR1.k.row;obtain ⟨na,nc,G6,_⟩:=zH hR1.n.row;subst Ke G9 G6;generalize hB1:w.heap.size+1=c4 at *;generalize hB2:c4+1=c5 at *;have sJ:=zi (aj v1.heap.size v1);have HP:=zh (iY.below sJ);have HR:=zh (hR1.below sJ);have Vm:=hw0.size;have eH:=zh (HB.out.step sJ (ak Vm HB.out.size));have sW:=zh (HY.out.below sJ);have JA:=zh (HZ.out.below sJ);clear iY hR1 HB HY HZ HM sJ;go_upto_region 16 with fail;obtain ⟨v2,hv2⟩:∃ v2,v1.drew=v2:=⟨_,rfl⟩
  rw[hv2] at HP HR eH sW JA;have hc4:w0.heap.size≤c4∧w0.heap.size≤c5∧c4≠c5∧c4≠b∧c5≠b:=by omega
  have hc6:w.heap.size≤c4∧w.heap.size≤c5:=by omega
  have oF:=zh (dZ.sets (wL fg.ey (fg.res.length:Int) (.slice ka gM.length kc) (.slice na iX.length nc) (.slice ra fg.res.length rc)) sW.out);have FZ:=zh (dZ.eE (c:=c4) (by omega) (wL fg.ey (fg.res.length:Int) (.slice ka gM.length kc) (.slice na iX.length nc) (.slice ra fg.res.length rc)) HP.out);have Fk:=zh (dZ.eE (c:=c4) (by omega) (wL fg.ey (fg.res.length:Int) (.slice ka gM.length kc) (.slice na iX.length nc) (.slice ra fg.res.length rc)) JA.out);have C7:=zh (HR.out.pln.gK (gw.pts (B:=w0.heap.size) hc4.1 ⟨_,_,sW.out⟩ (wL fg.ey (fg.res.length:Int) (.slice ka gM.length kc) (.slice na iX.length nc) (.slice ra fg.res.length rc))) (by decide) (by decide) (by decide) (by decide) (by decide));have eP:=zh (fc.box0 hc4.1 hc6.1 eH.out (wL fg.ey (fg.res.length:Int) (.slice ka gM.length kc) (.slice na iX.length nc) (.slice ra fg.res.length rc)));clear HR
  refine vA 9 (fun L f' W=>F2 [(0,.pointer (some ⟨b,0,none⟩)),(1,.pointer (some ⟨b,0,none⟩)),(2,.pointer (some ⟨b,4,none⟩)),(3,.agg #[.bool fg.ey,.int .i64 (fg.res.length:Int),.slice ka gM.length kc,.slice na iX.length nc,.slice ra fg.res.length rc]),(4,.pointer (some ⟨b,0,none⟩)),(5,.pointer (some ⟨b,0,none⟩)),(6,.pointer (some ⟨b,0,none⟩)),(7,zO fg.t.id fg.t.lim fg.t.ro nP nJ nQ)] v2 (pts v2 c4 (wL fg.ey (fg.res.length:Int) (.slice ka gM.length kc) (.slice na iX.length nc) (.slice ra fg.res.length rc))) L f' W) 79 (by kernel_rfl) (by kernel_rfl) (by rfl) (by kernel_rfl) (fun f=>by simp[fF,zT,Act.put];exact rfl) (fun f=>by rw[hv2];exact F2.start _ _ f) ?_ ?_
  ·
   refine ⟨?_,?_,?_,?_,?_,?_,?_,?_,?_,trivial⟩
   ·
    intro L f' w7 h0 hd hI;have fS:=zh hI;clear hI hd;dsimp only;go_wp2_with fail;exact ⟨rfl,(fun h=>by cases h),fun t ht=>by injection ht with ht;subst ht;exact fS.out.pure (v:=.pointer (some ⟨b,0,none⟩)) (by decide) (by simp)⟩
   ·
    intro L f' w7 h0 hd hI;have fS:=zh hI;have d0:f' 0=.pointer (some ⟨b,0,none⟩):=hI.jm (0,.pointer (some ⟨b,0,none⟩)) (by simp) (hd 0 (by kernel_rfl));clear hI hd;dsimp only;rw[d0];go_wp2_with fail;exact ⟨rfl,(fun h=>by cases h),fun t ht=>by injection ht with ht;subst ht;exact fS.out.pure (v:=.pointer (some ⟨b,0,none⟩)) (by decide) (by simp)⟩
   ·
    intro L f' w7 h0 hd hI;have fS:=zh hI;have d1:f' 1=.pointer (some ⟨b,0,none⟩):=hI.jm (1,.pointer (some ⟨b,0,none⟩)) (by simp) (hd 1 (by kernel_rfl));clear hI hd;dsimp only;rw[d1];go_wp2_with fail;exact ⟨rfl,(fun h=>by cases h),fun t ht=>by injection ht with ht;subst ht;exact fS.out.pure (v:=.pointer (some ⟨b,4,none⟩)) (by decide) (by simp)⟩
   ·
    intro L f' w7 h0 hd hI;have fS:=zh hI;have d2:f' 2=.pointer (some ⟨b,4,none⟩):=hI.jm (2,.pointer (some ⟨b,4,none⟩)) (by simp) (hd 2 (by kernel_rfl));have hx:AB w7 b fg.t.id fg.t.lim fg.t.ro nP nJ nQ fg.ey (fg.res.length:Int) (.slice ka gM.length kc) (.slice na iX.length nc) (.slice ra fg.res.length rc) fg.bytes:=by
     cases h8:L 8 with
     |false=>rw[hI.s0 h8];exact HP.out
     |true=>rw[hI.s1 h8];exact FZ.out
    have q4:=hx.cell (i:=4) rfl;have q5:=hx.cell (i:=5) rfl;have q6:=hx.cell (i:=6) rfl;have q7:=hx.cell (i:=7) rfl;have q8:=hx.cell (i:=8) rfl;clear hx;clear hI hd;dsimp only;rw[d2];go_wp2_with fail;exact ⟨rfl,(fun h=>by cases h),fun t ht=>by injection ht with ht;subst ht;exact fS.out.pure (v:=.agg #[.bool fg.ey,.int .i64 (fg.res.length:Int),.slice ka gM.length kc,.slice na iX.length nc,.slice ra fg.res.length rc]) (by decide) (by simp)⟩
   ·
    intro L f' w7 h0 hd hI;have fS:=zh hI;clear hI hd;dsimp only;go_wp2_with fail;exact ⟨rfl,(fun h=>by cases h),fun t ht=>by injection ht with ht;subst ht;exact fS.out.pure (v:=.pointer (some ⟨b,0,none⟩)) (by decide) (by simp)⟩
   ·
    intro L f' w7 h0 hd hI;have fS:=zh hI;have d4:f' 4=.pointer (some ⟨b,0,none⟩):=hI.jm (4,.pointer (some ⟨b,0,none⟩)) (by simp) (hd 4 (by kernel_rfl));clear hI hd;dsimp only;rw[d4];go_wp2_with fail;exact ⟨rfl,(fun h=>by cases h),fun t ht=>by injection ht with ht;subst ht;exact fS.out.pure (v:=.pointer (some ⟨b,0,none⟩)) (by decide) (by simp)⟩
   ·
    intro L f' w7 h0 hd hI;have fS:=zh hI;have d5:f' 5=.pointer (some ⟨b,0,none⟩):=hI.jm (5,.pointer (some ⟨b,0,none⟩)) (by simp) (hd 5 (by kernel_rfl));clear hI hd;dsimp only;rw[d5];go_wp2_with fail;exact ⟨rfl,(fun h=>by cases h),fun t ht=>by injection ht with ht;subst ht;exact fS.out.pure (v:=.pointer (some ⟨b,0,none⟩)) (by decide) (by simp)⟩
   ·
    intro L f' w7 h0 hd hI;have fS:=zh hI;have d6:f' 6=.pointer (some ⟨b,0,none⟩):=hI.jm (6,.pointer (some ⟨b,0,none⟩)) (by simp) (hd 6 (by kernel_rfl));have hx:AB w7 b fg.t.id fg.t.lim fg.t.ro nP nJ nQ fg.ey (fg.res.length:Int) (.slice ka gM.length kc) (.slice na iX.length nc) (.slice ra fg.res.length rc) fg.bytes:=by
     cases h8:L 8 with
     |false=>rw[hI.s0 h8];exact HP.out
     |true=>rw[hI.s1 h8];exact FZ.out
    have q0:=hx.cell (i:=0) rfl;have q1:=hx.cell (i:=1) rfl;have q2:=hx.cell (i:=2) rfl;have q3:=hx.cell (i:=3) rfl;clear hx;clear hI hd;dsimp only;rw[d6];go_wp2_with fail;exact ⟨rfl,(fun h=>by cases h),fun t ht=>by injection ht with ht;subst ht;exact fS.out.pure (v:=zO fg.t.id fg.t.lim fg.t.ro nP nJ nQ) (by decide) (by simp)⟩
   intro L f' w7 h0 hd hI;have d3:f' 3=.agg #[.bool fg.ey,.int .i64 (fg.res.length:Int),.slice ka gM.length kc,.slice na iX.length nc,.slice ra fg.res.length rc]:=hI.jm (3,.agg #[.bool fg.ey,.int .i64 (fg.res.length:Int),.slice ka gM.length kc,.slice na iX.length nc,.slice ra fg.res.length rc]) (by simp) (hd 3 (by kernel_rfl));have hW:=hI.s0 h0;subst hW;have fS:=zh (fun v=>hI.store (by simp) v);clear hI hd;have y0:=sW.out.cell (i:=0) rfl;have y1:=sW.out.cell (i:=1) rfl;have y2:=sW.out.cell (i:=2) rfl;have y3:=sW.out.cell (i:=3) rfl;have y4:=sW.out.cell (i:=4) rfl;have yf:=sW.out.frozen;dsimp only;rw[d3];go_wp2_with fail;exact ⟨rfl,(fun _ v=>fS.out v),fun t ht=>by cases ht⟩
  intro L f' w7 hA hI;have hW:=hI.s1 (hA 8 (by decide));subst hW;have d7:f' 7=zO fg.t.id fg.t.lim fg.t.ro nP nJ nQ:=hI.jm (7,zO fg.t.id fg.t.lim fg.t.ro nP nJ nQ) (by simp) (hA 7 (by decide));clear hI hA;generalize pts v2 c4 (wL fg.ey (fg.res.length:Int) (.slice ka gM.length kc) (.slice na iX.length nc) (.slice ra fg.res.length rc))=v3 at *;have y0:=oF.out.cell (i:=0) (u:=.bool fg.ey) (by simp);have y1:=oF.out.cell (i:=1) (u:=.int .i64 (fg.res.length:Int)) (by simp);have y2:=oF.out.cell (i:=2) (u:=.slice ka gM.length kc) (by simp);have y3:=oF.out.cell (i:=3) (u:=.slice na iX.length nc) (by simp);have y4:=oF.out.cell (i:=4) (u:=.slice ra fg.res.length rc) (by simp);have DL:=zh (dZ.u_ Fk.out fg.t.id fg.t.lim fg.t.ro nP nJ nQ);have A_:=zh (dZ.eE (c:=c5) (by omega) (zR fg.t.id fg.t.lim fg.t.ro nP nJ nQ) oF.out)
  have HNn:=zh (C7.out.gK (gw.pts (B:=w0.heap.size) hc4.2.1 ⟨_,_,Fk.out⟩ (zR fg.t.id fg.t.lim fg.t.ro nP nJ nQ)) (by decide) (by decide) (by decide) (by decide) (by decide));have fV:=zh (fc.box0 hc4.2.1 hc6.2 eP.out (zR fg.t.id fg.t.lim fg.t.ro nP nJ nQ));obtain ⟨z0,z1,z2,z3⟩:=(dZ.lF Fk.out).q;have zf:=(dZ.lF Fk.out).f
  try dsimp only
  rw[d7];clear d7 HP FZ sW JA eH;generalize f' 0=rI,f' 1=rJ,f' 2=pY,f' 3=pZ,f' 4=p_,f' 5=q_,f' 6=rK;clear f';go_wp2_with fail;change bodyPost _ _ _ _ _ (pts v3 c5 (zR fg.t.id fg.t.lim fg.t.ro nP nJ nQ));clear y0 y1 y2 y3 y4 z0 z1 z2 z3 zf;generalize pts v3 c5 (zR fg.t.id fg.t.lim fg.t.ro nP nJ nQ)=v4 at *;have y0:=A_.out.cell (i:=0) (u:=.bool fg.ey) (by simp);have y1:=A_.out.cell (i:=1) (u:=.int .i64 (fg.res.length:Int)) (by simp);have y2:=A_.out.cell (i:=2) (u:=.slice ka gM.length kc) (by simp);have y3:=A_.out.cell (i:=3) (u:=.slice na iX.length nc) (by simp);have y4:=A_.out.cell (i:=4) (u:=.slice ra fg.res.length rc) (by simp);obtain ⟨z0,z1,z2,z3⟩:=(dZ.lF DL.out).q
  exact au (v:=.tuple #[.agg #[.bool fg.ey,.int .i64 (fg.res.length:Int),.slice ka gM.length kc,.slice na iX.length nc,.slice ra fg.res.length rc],zO fg.t.id fg.t.lim fg.t.ro nP nJ nQ,.int .i64 0]) (by simp[results,Tryz.results68,go_sem,y0,y1,y2,y3,y4,z0,z1,z2,z3]) rfl (by rw[nN.out];exact ⟨nP,nJ,nQ,.slice ka gM.length kc,gM,.slice na iX.length nc,iX,.slice ra fg.res.length rc,rfl,HNn.out,fV.out⟩)
 have hv0:zY s=false:=by cases h:zY s with
  |false=>rfl
  |true=>exact absurd h hv
 rw[hv0];have nN:=zh (show yT s (qs.map (·.1))=(wJ xh,1) by unfold yT;rw[ai hv]);have oF:=zh (dZ.sets (wL false 0 (.slice none 0 0) (.slice none 0 0) (.slice none 0 0)) HY.out);have Fk:=zh (dZ.eE (c:=w.heap.size+1) (by omega) (wL false 0 (.slice none 0 0) (.slice none 0 0) (.slice none 0 0)) HZ.out);have eP:=zh (zD (B:=w.heap.size) (b:=w.heap.size+1) (by omega) (wL false 0 (.slice none 0 0) (.slice none 0 0) (.slice none 0 0)) HB.out);have A_:=zh (dZ.eE (c:=w.heap.size+1+1) (by omega) (zR 0 0 false none 0 0) oF.out);have DL:=zh (dZ.u_ Fk.out 0 0 false none 0 0);have fV:=zh (zD (B:=w.heap.size) (b:=w.heap.size+1+1) (by omega) (zR 0 0 false none 0 0) eP.out);have y0:=HY.out.cell (i:=0) rfl;have y1:=HY.out.cell (i:=1) rfl;have y2:=HY.out.cell (i:=2) rfl;have y3:=HY.out.cell (i:=3) rfl;have y4:=HY.out.cell (i:=4) rfl
 have yf:=HY.out.frozen;have z0:(((((w2.setCell ⟨w.heap.size+1,0,none⟩ (.bool false)).setCell ⟨w.heap.size+1,1,none⟩ (.int .i64 0)).setCell ⟨w.heap.size+1,2,none⟩ (.slice none 0 0)).setCell ⟨w.heap.size+1,3,none⟩ (.slice none 0 0)).setCell ⟨w.heap.size+1,4,none⟩ (.slice none 0 0)).cell? ⟨w.heap.size+1+1,0,none⟩=some (.int .i64 0):=(dZ.lF Fk.out).c0;have z1:(((((w2.setCell ⟨w.heap.size+1,0,none⟩ (.bool false)).setCell ⟨w.heap.size+1,1,none⟩ (.int .i64 0)).setCell ⟨w.heap.size+1,2,none⟩ (.slice none 0 0)).setCell ⟨w.heap.size+1,3,none⟩ (.slice none 0 0)).setCell ⟨w.heap.size+1,4,none⟩ (.slice none 0 0)).cell? ⟨w.heap.size+1+1,1,none⟩=some (.int .i64 0):=(dZ.lF Fk.out).c1
 have z2:(((((w2.setCell ⟨w.heap.size+1,0,none⟩ (.bool false)).setCell ⟨w.heap.size+1,1,none⟩ (.int .i64 0)).setCell ⟨w.heap.size+1,2,none⟩ (.slice none 0 0)).setCell ⟨w.heap.size+1,3,none⟩ (.slice none 0 0)).setCell ⟨w.heap.size+1,4,none⟩ (.slice none 0 0)).cell? ⟨w.heap.size+1+1,2,none⟩=some (.bool false):=(dZ.lF Fk.out).c2;have z3:(((((w2.setCell ⟨w.heap.size+1,0,none⟩ (.bool false)).setCell ⟨w.heap.size+1,1,none⟩ (.int .i64 0)).setCell ⟨w.heap.size+1,2,none⟩ (.slice none 0 0)).setCell ⟨w.heap.size+1,3,none⟩ (.slice none 0 0)).setCell ⟨w.heap.size+1,4,none⟩ (.slice none 0 0)).cell? ⟨w.heap.size+1+1,3,none⟩=some (.slice none 0 0):=(dZ.lF Fk.out).c3
 have zf:∀ i,(((((w2.setCell ⟨w.heap.size+1,0,none⟩ (.bool false)).setCell ⟨w.heap.size+1,1,none⟩ (.int .i64 0)).setCell ⟨w.heap.size+1,2,none⟩ (.slice none 0 0)).setCell ⟨w.heap.size+1,3,none⟩ (.slice none 0 0)).setCell ⟨w.heap.size+1,4,none⟩ (.slice none 0 0)).frozen? ⟨w.heap.size+1+1,i,none⟩=false:=(dZ.lF Fk.out).f;clear hr hg hl hq il;go_wp2_with fail;change bodyPost _ _ _ _ _ (pts (pts w2 (w.heap.size+1) (wL false 0 (.slice none 0 0) (.slice none 0 0) (.slice none 0 0))) (w.heap.size+1+1) (zR 0 0 false none 0 0));clear y0 y1 y2 y3 y4 yf z0 z1 z2 z3 zf;generalize pts (pts w2 (w.heap.size+1) (wL false 0 (.slice none 0 0) (.slice none 0 0) (.slice none 0 0))) (w.heap.size+1+1) (zR 0 0 false none 0 0)=v4 at *;have y0:=A_.out.cell (i:=0) (u:=.bool false) (by simp);have y1:=A_.out.cell (i:=1) (u:=.int .i64 0) (by simp)
 have y2:=A_.out.cell (i:=2) (u:=.slice none 0 0) (by simp);have y3:=A_.out.cell (i:=3) (u:=.slice none 0 0) (by simp);have y4:=A_.out.cell (i:=4) (u:=.slice none 0 0) (by simp);obtain ⟨z0,z1,z2,z3⟩:=(dZ.lF DL.out).q;exact au (v:=.tuple #[.agg #[.bool false,.int .i64 0,.slice none 0 0,.slice none 0 0,.slice none 0 0],zO 0 0 false none 0 0,.int .i64 1]) (by simp[results,Tryz.results68,go_sem,y0,y1,y2,y3,y4,z0,z1,z2,z3]) rfl (by rw[nN.out];exact ⟨none,0,0,.slice none 0 0,[],.slice none 0 0,[],.slice none 0 0,rfl,mI.nil v4 w0.heap.size xh,fc.of fV.out hw0.size⟩)
structure Wri (w:World) (p B:Nat) (l:List UInt8):Prop where
 h:∃ v,w.heap[p]?=some (.cells #[v] 203 (0,0))∧Pn w B v l
def le (v n:Nat):List UInt8:=(List.range n).map fun j=>UInt8.ofNat (v/2^(8*j))
end Go.Proofs.YtcgfilmmokmdjaaGreat
