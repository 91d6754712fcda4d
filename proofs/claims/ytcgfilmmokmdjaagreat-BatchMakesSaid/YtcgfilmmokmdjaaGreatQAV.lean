import Derived.Test.YtcgfilmmokmdjaaGreatQAK
import Derived.Test.YtcgfilmmokmdjaaGreatQAU
import Derived.Test.YtcgfilmmokmdjaaGreatHe
import Derived.Test.YtcgfilmmokmdjaaGreatBk
import Derived.Deep.CutBlock
set_option linter.all false
set_option maxRecDepth 100000
set_option maxHeartbeats 32000000
namespace Go.Proofs.YtcgfilmmokmdjaaGreat
open Go.RowKit
theorem zGv (i l:Int) (r:Bool) (a:Option Addr) (n c:Nat) (L:List GP) (w:World) (h:fD w (.slice a n c) L) (hs:∀ p∈L,∀ j,j<8→(p.1.m.st j).length≤10000) (m:Int) :
  Calls Tryz.prog 153 #[zO i l r a n c,.int .i64 m] w fun e w'=>e=.returned (.bool (yY ⟨i,l,r,ep L⟩ m))∧Below w.heap.size w w':=by
 have fQ:=zh (fun W (hb:Below w.heap.size w W)=>zz i l r a n c L W (h.below hb) hs);have HZ:=zh (fun W=>(KQ m.toNat W).mono (R':=fun e w'=>e=.returned (.int .i64 ((eN m.toNat:Nat):Int))∧Below W.heap.size W w') fun _ _ ⟨he,hw⟩=>⟨he,hw▸aj _ _⟩);have eB:=zh (eW.new w i l r a n c 31);have eH:=zh (zM w i l r a n c 31);have hcs:yY ⟨i,l,r,ep L⟩ m=(zY ⟨i,l,r,ep L⟩&&(decide (0≤m)&&decide (m≤4096))&&decide ((ze ⟨i,l,r,ep L⟩).size+(eN m.toNat:Nat)≤l)):=rfl
 cases hv:zY ⟨i,l,r,ep L⟩
 ·
  rw[hv] at fQ hcs;have HF:=zh (show yY ⟨i,l,r,ep L⟩ m=false by rw[hcs];rfl);clear h hs hv hcs;generalize yY ⟨i,l,r,ep L⟩ m=F at *
  go_enter Tryz.func153,Tryz.ntmps153
  go_upto_region 1 with fail;obtain ⟨W,hW⟩:∃ W,w.alloc (.cells (zK i l r a n c) 31)=W:=⟨_,rfl⟩
  change Code.wp _ _ _ _ (w.alloc (.cells (zK i l r a n c) 31));rw[hW] at eB eH ⊢;clear hW;have nW:=eB.out.lt;have k0:=zB eB.out.c0;have k1:=zB eB.out.c1;have k2:=zB eB.out.c2;have k3:=zB eB.out.c3;have lQ:=zh (fun W' (hb:Below W.heap.size W W')=>fQ.out W' (zA eH.out hb));refine zC (by kernel_rfl) (by kernel_rfl) ?_
  repeat (go_big_quiet_step ((first|exact zE (lQ.out _ (eo.h _))|exact zE (HZ.out _))))
  refine aA ?_;intro _ hw';obtain ⟨q,hw'⟩:=hw';subst hw';have HQ:=zh (zA eH.out q.h);clear k0 k1 k2 k3;go_wp2_with fail;go_ret;exact ⟨by rw[HF.out];rfl,HQ.out⟩
 by_cases h1:m<0
 ·
  rw[hv] at fQ hcs;have HF:=zh (show yY ⟨i,l,r,ep L⟩ m=false by rw[hcs,show decide (0≤m)=false by simp;omega];rfl);have e1:decide (0≤m)=false:=by simp;omega
  clear h hs hv hcs;generalize yY ⟨i,l,r,ep L⟩ m=F at *
  go_enter Tryz.func153,Tryz.ntmps153
  go_upto_region 1 with fail;obtain ⟨W,hW⟩:∃ W,w.alloc (.cells (zK i l r a n c) 31)=W:=⟨_,rfl⟩
  change Code.wp _ _ _ _ (w.alloc (.cells (zK i l r a n c) 31));rw[hW] at eB eH ⊢;clear hW;have nW:=eB.out.lt;have k0:=zB eB.out.c0;have k1:=zB eB.out.c1;have k2:=zB eB.out.c2;have k3:=zB eB.out.c3;have lQ:=zh (fun W' (hb:Below W.heap.size W W')=>fQ.out W' (zA eH.out hb));refine zC (by kernel_rfl) (by kernel_rfl) ?_
  repeat (go_big_quiet_step ((first|exact zE (lQ.out _ (eo.h _))|exact zE (HZ.out _))))
  refine aA ?_;intro _ hw';obtain ⟨q,hw'⟩:=hw';subst hw';have HQ:=zh (zA eH.out q.h);clear k0 k1 k2 k3;go_wp2_with fail;go_ret;exact ⟨by rw[HF.out];rfl,HQ.out⟩
 by_cases h2:4096<m
 ·
  rw[hv] at fQ hcs;have HF:=zh (show yY ⟨i,l,r,ep L⟩ m=false by rw[hcs,show decide (m≤4096)=false by simp;omega];simp);have e1:decide (0≤m)=true:=by simp;omega
  have e2:decide (m≤4096)=false:=by simp;omega
  clear h hs hv hcs;generalize yY ⟨i,l,r,ep L⟩ m=F at *
  go_enter Tryz.func153,Tryz.ntmps153
  go_upto_region 1 with fail;obtain ⟨W,hW⟩:∃ W,w.alloc (.cells (zK i l r a n c) 31)=W:=⟨_,rfl⟩
  change Code.wp _ _ _ _ (w.alloc (.cells (zK i l r a n c) 31));rw[hW] at eB eH ⊢;clear hW;have nW:=eB.out.lt;have k0:=zB eB.out.c0;have k1:=zB eB.out.c1;have k2:=zB eB.out.c2;have k3:=zB eB.out.c3;have lQ:=zh (fun W' (hb:Below W.heap.size W W')=>fQ.out W' (zA eH.out hb));refine zC (by kernel_rfl) (by kernel_rfl) ?_
  repeat (go_big_quiet_step ((first|exact zE (lQ.out _ (eo.h _))|exact zE (HZ.out _))))
  refine aA ?_;intro _ hw';obtain ⟨q,hw'⟩:=hw';subst hw';have HQ:=zh (zA eH.out q.h);clear k0 k1 k2 k3;go_wp2_with fail;go_ret;exact ⟨by rw[HF.out];rfl,HQ.out⟩
 have fO:L.length=n:=by
  obtain ⟨_,_,e,_⟩:=h.shape;injection e with _ e _;exact e.symm
 have hV:=(zW _).1 hv;have hn:1≤n∧n≤8:=by have:=hV.len;simp only[zn,fO] at this;exact this
 obtain ⟨j,rfl⟩:∃ j,n=j+1:=⟨n-1,by omega⟩
 have hg:=hV.vg (i:=j) (by show j<(ep L).length;rw[zn];omega);simp only[yv] at hg;have hz1:=hg.size.1;have hz2:=hg.size.2.1;rw[hv] at fQ hcs;rw[vF fO,show decide (0≤m)=true by simp;omega,show decide (m≤4096)=true by simp;omega] at hcs;have HF:=zh (show yY ⟨i,l,r,ep L⟩ m=decide ((pat L j).1.size+(eN m.toNat:Nat)≤l) by rw[hcs];simp);obtain ⟨k,rfl⟩:∃ k:Nat,m=(k:Int):=⟨m.toNat,by omega⟩
 rw[dP] at HF HZ;have S7:eN k≤4127:=xj k;have e1:decide ((0:Int)≤(k:Int))=true:=by simp
 have e2:decide ((k:Int)≤4096)=true:=by simp;omega
 have HR:=zh h;clear h hs hv hcs hV fO hg;generalize yY ⟨i,l,r,ep L⟩ (k:Int)=F at *;generalize eN k=z at *;obtain ⟨b,off,rfl,hg⟩:=HR.out.at (show j<j+1 by omega);have HG:=zh hg;clear hg HR;generalize pat L j=p at *;obtain ⟨⟨num,rev,md,sz,f,LV,GA⟩,s⟩:=p;dsimp only at *;have j3:IntKind.i64.wrap (j:Int)=(j:Int):=aF _ (by omega);have i2:(j:Int)<((j+1:Nat):Int):=by omega
 have j5:IntKind.i64.wrap (sz+(z:Int))=sz+(z:Int):=aF _ (by omega)
 go_enter Tryz.func153,Tryz.ntmps153
 go_upto_region 1 with fail;obtain ⟨W,hW⟩:∃ W,w.alloc (.cells (zK i l r (some ⟨b,off,none⟩) (j+1) c) 31)=W:=⟨_,rfl⟩
 change Code.wp _ _ _ _ (w.alloc (.cells (zK i l r (some ⟨b,off,none⟩) (j+1) c) 31));rw[hW] at eB eH ⊢;clear hW;have nW:=eB.out.lt;have k0:=zB eB.out.c0;have k1:=zB eB.out.c1;have k2:=zB eB.out.c2;have k3:=zB eB.out.c3;have lQ:=zh (fun W' (hb:Below W.heap.size W W')=>fQ.out W' (zA eH.out hb));have g3:=zB (HG.out.below eH.out).n3;dsimp only at g3;refine zC (by kernel_rfl) (by kernel_rfl) ?_
 repeat (go_big_quiet_step ((first|exact zE (lQ.out _ (eo.h _))|exact zE (HZ.out _))))
 refine aA ?_;intro _ hw';obtain ⟨q,hw'⟩:=hw';subst hw';have HQ:=zh (zA eH.out q.h);clear k0 k1 k2 k3 g3;go_wp2_with fail;go_ret;exact ⟨by rw[HF.out];rfl,HQ.out⟩
theorem zLa (s:eX) (a:Option Addr) (n c:Nat) (L:List GP) (W:World) (hr:fD W (.slice a n c) L) (hg:ep L=s.dY) (hl:fu 1000 s.dY) (m:Int) :
  Calls Tryz.prog 153 #[zO s.id s.lim s.ro a n c,.int .i64 m] W fun e w'=>e=.returned (.bool (yY s m))∧Below W.heap.size W w':=by
 have h:=zGv s.id s.lim s.ro a n c L W hr (xu (hg▸hl) (by decide)) m;obtain ⟨i,l,r,g⟩:=s;dsimp only at hg h ⊢;subst hg;exact h
theorem zI0 (s:eX) (a:Option Addr) (n c:Nat) (L:List GP) (W:World) (hr:fD W (.slice a n c) L) (hg:ep L=s.dY) (hl:fu 1000 s.dY) :
  Calls Tryz.prog 84 #[zO s.id s.lim s.ro a n c] W fun e w'=>e=.returned (.bool (vO s))∧Below W.heap.size W w':=by
 have h:=tQ s.id s.lim s.ro a n c L W hr (xu (hg▸hl) (by decide));obtain ⟨i,l,r,g⟩:=s;dsimp only at hg h ⊢;subst hg;exact h
theorem zDP {t:eX} {q:Rq} (h:¬ 4096<q.data.length):yD t q=if yY t (q.data.length:Int)=true then 0 else 9:=by unfold yD;rw[ai h]
theorem zCa {P:fB} (h:sI P) (n:Nat):uH P n=false↔(0<P.bytes∧16384<P.bytes+(eN n:Int)):=by
 unfold uH;rw[h.room]
 by_cases e1:0<P.needs.length
 ·
  by_cases e2:16384<P.bytes+(eN n:Int)
  ·
   simp[e1,e2]
  simp[e1,e2]
 simp[e1]
theorem p9S {x:Value} {d:Tmp} {w:World} {ts:Array Value} (h:ts.getD d undef=x):uz (eR x).p False [] (some d) w ⟨ts,[]⟩ w:=⟨rfl,aj _ _,fun t ht=>by injection ht with ht;subst ht;exact ⟨h,fun h=>h.elim⟩⟩
theorem zHr {w:World} {B b:Nat} {tk:Int} {P:fB} (hM:l7 w B b tk P) (hB:B≤w.heap.size) (hl:fu 800 P.t.dY) (Oc:sI P) (hby:0≤P.bytes∧P.bytes≤1000000000) (hel:P.needs.length≤900) (J9:P.res.length<16) (Pc:tk=(P.res.length:Int)) (q:Rq) (hq1:q.kind=1) (rt rk key ck:Int) (da:Option Addr) (dn dc:Nat) (rY:(q.key:Int)=key) (A6:(q.ck:Int)=ck) (hd:fR w B (.slice da dn dc) q.data) (nk:q.data.length=dn) (il:dn≤100000) :
  Calls Tryz.prog 110 #[.pointer (some ⟨b,0,none⟩),CP rt rk key ck (.slice da dn dc)] w fun e w'=>e=.returned (.bool (zm P q).1)∧l7 w' B b tk (zm P q).2∧fc B w w':=by
 have hq:=hq1;have oH:¬ P.res.length=16:=by omega
 obtain ⟨ga,gn,gc,L,kv,ks,nv,es,rv,hlo,hP,hR⟩:=hM;have E4:es.length≤1000:=by
  have h:=aO List.length hR.nn;rw[aH] at h;omega
 have B5:=zh (fun W (hb:Below w.heap.size w W)=>zLa P.t ga gn gc L W (hR.g.rd.below hb) hR.gg (hl.mono (by decide)) (dn:Int));have EI:=zh (fun W (hb:Below w.heap.size w W)=>zI0 P.t ga gn gc L W (hR.g.rd.below hb) hR.gg (hl.mono (by decide)));have mG:=zh (fun W (hb:Below w.heap.size w W)=>zCB (w:=W) (B:=B) (b:=b) (tk:=tk) (P:=P) hlo (hP.below hb) (hR.below hb) (hl.mono (by decide)) (ak hB hb.size) (vX q) da dn dc (show fR W B _ _ from g_.below hd hb) nk il E4 hby);have CU:=zh hP;have jO:=zh hR;have Er:=zh Oc;have Bj:=zh Pc;clear Pc;have hkey:((vX q).key:Int)=key:=rY;have hck:((vX q).ck:Int)=ck:=A6;have hdel:(vX q).del=false:=rfl;rw[hkey,hck,hdel] at mG
 have E5:=zh (fun W (hb:Below w.heap.size w W) (c:Bool)=>show l7 (W.setCell ⟨b,4,none⟩ (.bool c)) B b tk {P with ey:=c} from by
  have hp:=hP.below hb
  have hO:gw W (W.setCell ⟨b,4,none⟩ (.bool c)) B b 197:=gw.pts hlo ⟨_,_,hp⟩ [(4,.bool c)]
  have Bv:=(hR.below hb).gK hO
  refine ⟨ga,gn,gc,L,kv,ks,nv,es,rv,hlo,?_,⟨Bv.g,Bv.gg,Bv.k,Bv.kk,Bv.n,Bv.nn,Bv.r⟩⟩
  have h:=hp.set 4 (.bool c)
  rw[zLH] at h;exact h)
 have Od:=zh (fun W (h:fc B w W) (hb:Below w.heap.size w W) (c:Bool)=>show fc B w (W.setCell ⟨b,4,none⟩ (.bool c)) from h.pts hlo [(4,.bool c)] ⟨_,_,hP.below hb⟩ (by decide));have Aw:=zh (fun W (hb:Below w.heap.size w W)=>show l7 W B b tk P from ⟨ga,gn,gc,L,kv,ks,nv,es,rv,hlo,hP.below hb,hR.below hb⟩);have fU:b<w.heap.size:=hP.lt;clear hP hR hl Oc hd rY A6 hkey hck hdel E4
 go_enter Tryz.func110,Tryz.ntmps110
 go_upto_region 1 with fail;change Code.wp _ _ _ _ (w.alloc (.cells #[.int .i64 rt,.int .i64 rk,.int .u64 key,.int .u32 ck,.slice da dn dc] 63));have ew:=(aj w.heap.size w).alloc (ag _) (.cells #[.int .i64 rt,.int .i64 rk,.int .u64 key,.int .u32 ck,.slice da dn dc] 63);have HX:=zh (dZ.new w #[.int .i64 rt,.int .i64 rk,.int .u64 key,.int .u32 ck,.slice da dn dc] 63);have l6:=zh ew;have AE:=zh (CU.out.below ew);clear ew;generalize w.alloc (.cells #[.int .i64 rt,.int .i64 rk,.int .u64 key,.int .u32 ck,.slice da dn dc] 63)=w1 at *;generalize nH:w.heap.size=b3 at *;have hz1:w.heap.size≤b3:=by omega
 have hz2:b3≤w.heap.size:=by omega
 clear nH;have x4:=HX.out.cell (i:=4) rfl
 by_cases hbig:4096<dn
 ·
  have i1:(4096:Int)<(dn:Int):=by omega
  have QD:yD P.t q=8:=by unfold yD;rw[ah (by omega)]
  have hpl:=um oH hq (by rw[QD];exact fun h=>absurd h.1 (by decide)) (by rw[QD];decide);rw[QD] at hpl;have HF:=zh hpl;have HM:=zh (Aw.out w1 l6.out);have HB:=zh (show fc B w w1 from fc.of (l6.out.mono (hz1)) (ak hB hz2));have Ai:B≤w1.heap.size:=(ak (ak hB hz2) l6.out.size)
  clear hpl QD B5 EI mG E5 Od Aw;go_upto_region 2 with fail;obtain ⟨iI,iJ,gc',L',rh,nO,nG,es',DG,jh,rj,rq⟩:=HM.out;obtain ⟨Oe,Og,ru,E6,E7,_⟩:=zH rq.r;subst ru;have q8:=rj.cell (i:=8) rfl;have ew:=(aj w1.heap.size w1).alloc (ag _) (.cells #[.int .i64 8] 39);have oh:=zh (rj.below ew);have jW:=zh (rq.below ew);have mj:=zh (HB.out.step ew Ai);have gR:=zh jW.out.r;have o7:=ak Ai ew.size;clear ew rj rq HM HB
  go_wp2_with (at_builtin;go_must (refine zP (n:=P.res.length) (m:=1) rfl (.tmp 14) (.tmp 15) 69 rfl qt B rfl gR.out rfl (Rd.jD w1.heap.size w1 rfl 1 [.int .i64 8] 39 1 rfl (by decide)) (fun u hu=>by simp only[aX,aY,aZ] at hu;rw[hu];rfl) (by unfold maxLen;omega) (by omega) o7 ?_);intro v3 w3 ei eL hv3;clear hv3;obtain ⟨oa,oc,ev,_,_,_⟩:=zH ei;subst ev;have gO:=oh.out.eY (fA.row gR.out eL (ag B)) (by decide);have c8:=gO.cell (i:=8) rfl;have f8:=gO.frozen 8);have jB:gw w3 (w3.setCell ⟨b,8,none⟩ (.slice oa (P.res.length+1) oc)) B b 197:=gw.pts jh ⟨_,_,gO⟩ [(8,.slice oa (P.res.length+1) oc)];have mH:=zh ((jW.out.res 8 eL ei).1.gK jB)
  have od:=zh (show AB (w3.setCell ⟨b,8,none⟩ (.slice oa (P.res.length+1) oc)) b P.t.id P.t.lim P.t.ro iI iJ gc' P.ey tk rh nG (.slice oa (P.res.length+1) oc) P.bytes from (by have h:=gO.set 8 (.slice oa (P.res.length+1) oc);rw[Ln] at h;exact h));have i_:=zh ((mj.out.own gR.out o7 eL (by decide)).pts jh [(8,.slice oa (P.res.length+1) oc)] ⟨_,_,gO⟩ (by decide));clear ei eL gO jB c8 f8 q8;go_wp2_with fail;go_ret;exact ⟨by rw[HF.out];try rfl,by rw[HF.out];exact ⟨iI,iJ,gc',L',rh,nO,nG,es',_,jh,od.out,mH.out⟩,i_.out⟩
 have i1:¬ (4096:Int)<(dn:Int):=by omega
 have D8:=zDP (t:=P.t) (q:=q) (by omega);rw[nk] at D8;go_upto_region 4 with fail;clear x4
 go_cut [28] (fun v wx=>v=.bool (!yY P.t (dn:Int))∧Hid (Below w1.heap.size w1 wx))
 case first =>
  refine wB [eR (.pointer (some ⟨b,0,none⟩)),eR (.pointer (some ⟨b,0,none⟩)),eR (.pointer (some ⟨b,0,none⟩)),eR (zO P.t.id P.t.lim P.t.ro ga gn gc),eR (.pointer (some ⟨b3,4,none⟩)),eR (.slice da dn dc),eR (.int .i64 (dn:Int)),eR (.bool (yY P.t (dn:Int))),eR (.bool (!yY P.t (dn:Int)))] 76 (by kernel_rfl) (by kernel_rfl) (by kernel_rfl) (by rfl) (by kernel_rfl) (fun f=>by simp[fF,zT,Act.put];exact rfl) ?_ ?_
  ·
   refine ⟨?_,?_,?_,?_,?_,?_,?_,?_,?_,trivial⟩
   ·
    intro f w2 hb hd;clear hd;dsimp only;go_wp2_with fail;exact p9S rfl
   ·
    intro f w2 hb hd;have d0:f 0=(.pointer (some ⟨b,0,none⟩)):=hd 0 (by kernel_rfl);clear hd;dsimp only;rw[d0];go_wp2_with fail;exact p9S rfl
   ·
    intro f w2 hb hd;have d1:f 1=(.pointer (some ⟨b,0,none⟩)):=hd 1 (by kernel_rfl);clear hd;dsimp only;rw[d1];go_wp2_with fail;exact p9S rfl
   ·
    intro f w2 hb hd;have d2:f 2=(.pointer (some ⟨b,0,none⟩)):=hd 2 (by kernel_rfl);clear hd;dsimp only;rw[d2];have hx:=AE.out.below hb;have q0:=hx.cell (i:=0) rfl;have q1:=hx.cell (i:=1) rfl;have q2:=hx.cell (i:=2) rfl;have q3:=hx.cell (i:=3) rfl;clear hx;go_wp2_with fail;exact p9S rfl
   ·
    intro f w2 hb hd;clear hd;dsimp only;go_wp2_with fail;exact p9S rfl
   ·
    intro f w2 hb hd;have d4:f 4=(.pointer (some ⟨b3,4,none⟩)):=hd 4 (by kernel_rfl);clear hd;dsimp only;rw[d4];have q4:=(HX.out.below hb).cell (i:=4) rfl;go_wp2_with fail;exact p9S rfl
   ·
    intro f w2 hb hd;have d5:f 5=(.slice da dn dc):=hd 5 (by kernel_rfl);clear hd;dsimp only;rw[d5];go_wp2_with fail;exact p9S rfl
   ·
    intro f w2 hb hd;have d3:f 3=(zO P.t.id P.t.lim P.t.ro ga gn gc):=hd 3 (by kernel_rfl);have d6:f 6=(.int .i64 (dn:Int)):=hd 6 (by kernel_rfl);clear hd;dsimp only;rw[d3];rw[d6];go_wp2_with fail;refine (B5.out w2 (l6.out.trans (hb.mono (ak hz2 l6.out.size)))).mono ?_;rintro e w9 ⟨rfl,gI⟩;go_wp2_with fail;exact pT rfl (by simp) gI
   intro f w2 hb hd;have d7:f 7=(.bool (yY P.t (dn:Int))):=hd 7 (by kernel_rfl);clear hd;dsimp only;rw[d7];go_wp2_with fail;exact p9S rfl
  intro f w8 hb hA;have d8:f 8=.bool (!yY P.t (dn:Int)):=hA 8 (show 8<9 by decide);clear hA
  try dsimp only
  rw[d8];clear d8;have eD:=zh hb;clear hb;generalize f 0=rI,f 1=rJ,f 2=pY,f 3=pZ,f 4=p_,f 5=q_,f 6=rK,f 7=B9;clear f;go_wp2_with fail;go_meet
  case rel=>exact ⟨rfl,eD⟩
 obtain ⟨rfl,E8⟩:=hcut;generalize wc=w2 at *;have o8:=zh (l6.out.trans (E8.out.mono (ak hz2 l6.out.size)));replace HX:=zh (HX.out.below E8.out);replace AE:=zh (AE.out.below E8.out);have Ai:B≤w2.heap.size:=ak (ak (ak hB hz2) l6.out.size) E8.out.size;clear E8
 cases hfit:yY P.t (dn:Int)
 ·
  rw[hfit,ai (by decide)] at D8;have p0:=AE.out.cell (i:=0) rfl;have p1:=AE.out.cell (i:=1) rfl;have p2:=AE.out.cell (i:=2) rfl;have p3:=AE.out.cell (i:=3) rfl;go_wp2_with fail;refine (EI.out w2 o8.out).mono ?_;rintro e w3 ⟨rfl,hb⟩;have E9:=zh (o8.out.trans (hb.mono (ak hz2 o8.out.size)));replace AE:=zh (AE.out.below hb);have Hs:B≤w3.heap.size:=ak Ai hb.size;clear hb p0 p1 p2 p3 EI
  cases hcr:vO P.t
  ·
   have hpl:=um oH hq (by rw[hcr];exact fun h=>absurd h.2 (by decide)) (by rw[D8];decide);rw[D8] at hpl;have HF:=zh hpl;have HM:=zh (Aw.out w3 E9.out);have HB:=zh (show fc B w w3 from fc.of (E9.out.mono (hz1)) (ak hB hz2));have Ai:=Hs;clear hpl D8 B5 mG E5 Od Aw hcr;go_upto_region 8 with fail;obtain ⟨iI,iJ,gc',L',rh,nO,nG,es',DG,jh,rj,rq⟩:=HM.out;obtain ⟨Oe,Og,ru,E6,E7,_⟩:=zH rq.r;subst ru;have q8:=rj.cell (i:=8) rfl;have ew:=(aj w3.heap.size w3).alloc (ag _) (.cells #[.int .i64 9] 39);have oh:=zh (rj.below ew);have jW:=zh (rq.below ew);have mj:=zh (HB.out.step ew Ai);have gR:=zh jW.out.r;have o7:=ak Ai ew.size;clear ew rj rq HM HB
   go_wp2_with (at_builtin;go_must (refine zP (n:=P.res.length) (m:=1) rfl (.tmp 49) (.tmp 50) 69 rfl qt B rfl gR.out rfl (Rd.jD w3.heap.size w3 rfl 1 [.int .i64 9] 39 1 rfl (by decide)) (fun u hu=>by simp only[aX,aY,aZ] at hu;rw[hu];rfl) (by unfold maxLen;omega) (by omega) o7 ?_);intro v3 w3 ei eL hv3;clear hv3;obtain ⟨oa,oc,ev,_,_,_⟩:=zH ei;subst ev;have gO:=oh.out.eY (fA.row gR.out eL (ag B)) (by decide);have c8:=gO.cell (i:=8) rfl;have f8:=gO.frozen 8);have jB:gw w3 (w3.setCell ⟨b,8,none⟩ (.slice oa (P.res.length+1) oc)) B b 197:=gw.pts jh ⟨_,_,gO⟩ [(8,.slice oa (P.res.length+1) oc)];have mH:=zh ((jW.out.res 9 eL ei).1.gK jB)
   have od:=zh (show AB (w3.setCell ⟨b,8,none⟩ (.slice oa (P.res.length+1) oc)) b P.t.id P.t.lim P.t.ro iI iJ gc' P.ey tk rh nG (.slice oa (P.res.length+1) oc) P.bytes from (by have h:=gO.set 8 (.slice oa (P.res.length+1) oc);rw[Ln] at h;exact h));have i_:=zh ((mj.out.own gR.out o7 eL (by decide)).pts jh [(8,.slice oa (P.res.length+1) oc)] ⟨_,_,gO⟩ (by decide));clear ei eL gO jB c8 f8 q8;go_wp2_with fail;go_ret;exact ⟨by rw[HF.out];try rfl,by rw[HF.out];exact ⟨iI,iJ,gc',L',rh,nO,nG,es',_,jh,od.out,mH.out⟩,i_.out⟩
  have hpl:=zCd oH hq D8 hcr;obtain ⟨rz,Oh⟩:∃ rz:Bool,decide (P.res.length=0)=rz:=⟨_,rfl⟩
  rw[Oh] at hpl;have HF:=zh hpl;have HMr:=zh (E5.out w3 E9.out rz);have QE:=zh (Od.out w3 (fc.of (E9.out.mono (hz1)) (ak hB hz2)) E9.out rz);have p1:=AE.out.cell (i:=5) rfl;have pf:=AE.out.frozen 4;have p4:=AE.out.cell (i:=4) rfl;have E_:(tk==0)=rz:=by
   rw[← Oh,Bj.out]
   by_cases e:P.res.length=0<;>simp[e]
  clear Oh;clear hpl D8 B5 mG E5 Od Aw hcr;go_wp2_with fail;go_ret;exact ⟨by rw[HF.out];rfl,by rw[HF.out];exact HMr.out,QE.out⟩
 rw[hfit,ah rfl] at D8;have x2:=HX.out.cell (i:=2) rfl;have x3:=HX.out.cell (i:=3) rfl;have x4:=HX.out.cell (i:=4) rfl;go_wp2_with fail;refine (mG.out w2 o8.out).mono ?_;rintro e w3 ⟨rfl,hm,hb⟩;have HB:=zh (show fc B w w3 from (fc.of (o8.out.mono (hz1)) (ak hB hz2)).trans hb);have Hs:B≤w3.heap.size:=ak Ai hb.size;have Ai:=Hs;have QF:=zCa Er.out dn;clear x2 x3 x4 B5 EI mG E5 Od Aw hb
 cases hro:uH P dn
 ·
  have hpl:=zBD oH hq D8 (by rw[nk];exact QF.1 hro);have HF:=zh hpl;rw[hro,ai (by decide)] at hm;have HM:=zh hm;clear hpl hm QF;go_wp2_with fail;go_ret;exact ⟨by rw[HF.out];rfl,by rw[HF.out];exact HM.out,HB.out⟩
 have hpl:=UL oH hq D8 (by rw[nk];exact fun h=>by rw[QF.2 h] at hro;cases hro);have HF:=zh hpl;rw[hro,ah rfl] at hm;have HM:=zh hm;have UY:(xH P (vX q)).res.length≤16:=by rw[kN];omega
 clear hpl hm QF;generalize xH P (vX q)=st at *;go_upto_region 12 with fail;obtain ⟨iI,iJ,gc',L',rh,nO,nG,es',DG,jh,rj,rq⟩:=HM.out;obtain ⟨Oe,Og,ru,E6,E7,_⟩:=zH rq.r;subst ru;have q8:=rj.cell (i:=8) rfl;have ew:=(aj w3.heap.size w3).alloc (ag _) (.cells #[.int .i64 0] 39);have oh:=zh (rj.below ew);have jW:=zh (rq.below ew);have mj:=zh (HB.out.step ew Ai);have gR:=zh jW.out.r;have o7:=ak Ai ew.size;clear ew rj rq HM HB
 go_wp2_with (at_builtin;go_must (refine zP (n:=st.res.length) (m:=1) rfl (.tmp 70) (.tmp 71) 69 rfl qt B rfl gR.out rfl (Rd.jD w3.heap.size w3 rfl 1 [.int .i64 0] 39 1 rfl (by decide)) (fun u hu=>by simp only[aX,aY,aZ] at hu;rw[hu];rfl) (by unfold maxLen;omega) (by omega) o7 ?_);intro v3 w3 ei eL hv3;clear hv3;obtain ⟨oa,oc,ev,_,_,_⟩:=zH ei;subst ev;have gO:=oh.out.eY (fA.row gR.out eL (ag B)) (by decide);have c8:=gO.cell (i:=8) rfl;have f8:=gO.frozen 8);have jB:gw w3 (w3.setCell ⟨b,8,none⟩ (.slice oa (st.res.length+1) oc)) B b 197:=gw.pts jh ⟨_,_,gO⟩ [(8,.slice oa (st.res.length+1) oc)];have mH:=zh ((jW.out.res 0 eL ei).1.gK jB)
 have od:=zh (show AB (w3.setCell ⟨b,8,none⟩ (.slice oa (st.res.length+1) oc)) b st.t.id st.t.lim st.t.ro iI iJ gc' st.ey tk rh nG (.slice oa (st.res.length+1) oc) st.bytes from (by have h:=gO.set 8 (.slice oa (st.res.length+1) oc);rw[Ln] at h;exact h));have i_:=zh ((mj.out.own gR.out o7 eL (by decide)).pts jh [(8,.slice oa (st.res.length+1) oc)] ⟨_,_,gO⟩ (by decide));clear ei eL gO jB c8 f8 q8;go_wp2_with fail;go_ret;exact ⟨by rw[HF.out];try rfl,by rw[HF.out];exact ⟨iI,iJ,gc',L',rh,nO,nG,es',_,jh,od.out,mH.out⟩,i_.out⟩
theorem Lp:xt Tryz.prog 76 103 2 32:=by
 obtain ⟨i,hi,hz,hs,hb⟩:=cm (P:=Tryz.prog) (e:=103) (z:=.agg #[.int .i64 0,.slice none 0 0]) (size:=2) (bytes:=32) (by kernel_rfl);exact ⟨Tryz.underlying76,by decide,i,_,hi,hz,hs,hb,rfl⟩
theorem zLf (ks:List KP) (h:∀ p∈ks,∃ a n c,p.2.1=.slice a n c):∀ u∈ks.flatMap gU,u.oneCell'=true:=fun u hu=>by
 obtain ⟨x,hx,hu⟩:=List.mem_flatMap.1 hu;simp only[gU,aX,aY,aZ] at hu;rcases hu with rfl|rfl
 ·
  rfl
 obtain ⟨_,_,_,e⟩:=h x hx;rw[e];rfl
theorem ic.Fa {W:World} {B:Nat} {v:Value} {ks:List KP} (h:ic W B v ks):∀ p∈ks,∃ a n c,p.2.1=.slice a n c:=fun p hp=>by
 obtain ⟨a,c,e,_⟩:=zH (h.keys p hp);exact ⟨a,_,c,e⟩
structure UZ (P P1:fB) (r n:Nat) (num:Int) (i:Nat) (Q:fB):Prop where
 lo:i≤r→Q=P
 hi:r<i→Q=P1
theorem zFt {w:World} {B b:Nat} {tk:Int} {P:fB} (hM:l7 w B b tk P) (hB:B≤w.heap.size) (hl:fu 800 P.t.dY) (hv:eT P.t) (M:Nat) (Aw:M≤100000) (hsk:ou M P.eu) (num key:Int) (r:Nat) (hr:r+1<P.t.dY.length) (gT:num=(eV P.t.dY r).num) :
  Calls Tryz.prog 157 #[.pointer (some ⟨b,0,none⟩),.int .i64 num,.int .u64 key] w fun e w'=>e=.returned (.tuple #[])∧l7 w' B b tk (yK key P num)∧fc B w w':=by
 have AX:P.t.dY.length≤8:=hv.len.2;have Dl:=uW hv hr key;rw[← gT] at Dl;have hKe:yK key P num={P with t:=(xW P.t num [key]).1,eu:=kL P.eu num key}:=rfl;obtain ⟨P1,iY⟩:∃ P1,({P with t:=(xW P.t num [key]).1}:fB)=P1:=⟨_,rfl⟩
 have J_:P1.t=wi P.t r (vz (eV P.t.dY r) key):=by rw[← iY];show (xW P.t num [key]).1=_;rw[Dl]
 have Cc:=(Kp.refl hv).set (fit_drop hv hr key);rw[← J_] at Cc;obtain ⟨n,hn⟩:∃ n,P.t.dY.length=n:=⟨_,rfl⟩
 have Da:P1.t.dY.length=n:=by rw[Cc.len,hn]
 have hnm:=Cc.num r (by omega);rw[← gT] at hnm;have HN0:=zh (show ∀ i,i<n→i≠r→(eV P.t.dY i).num≠num from fun i hi hne=>by rw[gT];exact hv.z_ (by omega) (by omega) hne);have C7:=zh (show ∀ i,i<n→i≠r→(eV P1.t.dY i).num≠num from fun i hi hne=>by rw[← hnm];exact Cc.v.z_ (by omega) (by omega) hne);have hm:(eV P.t.dY r).mode≠1:=fun e=>by have:=(hv.g r (by omega)).2.2.1.1 e;omega
 have oO:=zh (ZG (h:=hv.vg (by omega:r<P.t.dY.length)) hm (key:=key));have HCg:=zh (show yV P.t (vz (eV P.t.dY r) key)=(P1.t,0) by rw[J_];exact T7 hv (fit_drop hv hr key));have U0:=zh hl;have EG:=zh gT;have FZ:=zh (show P1={P with t:=P1.t} from by rw[← iY]);have Bl:=zh (show yK key P num={P1 with eu:=kL P.eu num key} from by rw[hKe,← iY]);have pN:=zh hsk;have jS:=zh hM;generalize yK key P num=PZ at *;clear Dl hKe iY J_ Cc hnm hm hl hv hsk hM gT
 go_enter Tryz.func157,Tryz.ntmps157
 have eH:=zh (fc.refl B w);have Bg:=zh (show UZ P P1 r n num 0 P from ⟨fun _=>rfl,fun h=>absurd h (by omega)⟩);have Ic:r+1<n:=by omega
 go_wp2_with fail
 go_loopw [6] (fun iv W=>∃ (i:Nat) (Q:fB),iv=.int .i64 (i:Int)∧i≤n∧Hid (UZ P P1 r n num i Q)∧Hid (l7 W B b tk Q)∧Hid (fc B w W)) (fun iv _=>n-(intOf iv).toNat)
 case atStart=>exact ⟨0,P,rfl,aq _,Bg,jS,eH⟩
 clear Bg jS eH;obtain ⟨i,Q,rfl,hi,HI,QG,HB⟩:=hrel;have AP:B≤wr.heap.size:=ak hB HB.out.size;obtain ⟨ga,gn,gc,L,kv,ks,nv,es,rv,hlo,hP,hR⟩:=QG.out;have hQn:Q.t.dY.length=n:=by
  by_cases h:i≤r
  ·
   rw[HI.out.lo h];exact hn
  rw[HI.out.hi (by omega)];exact Da
 have fO:L.length=gn:=by
  obtain ⟨_,_,e,_⟩:=hR.g.rd.shape;injection e with _ e _;exact e.symm
 have hgn:gn=n:=by
  have h:=aO List.length hR.gg;rw[zn] at h;omega
 subst hgn;have p3:=hP.cell (i:=3) rfl
 by_cases hlt:i<gn
 ·
  have i1:(i:Int)<(gn:Int):=by omega
  obtain ⟨gb,go,e0,hat⟩:=hR.g.rd.at hlt;subst e0;have QH:eV Q.t.dY i=(pat L i).1:=by rw[← hR.gg];exact yv
  by_cases hir:i=r
  ·
   subst hir;obtain rfl:Q=P:=HI.out.lo (ag _);have Oi:=oO.out;have QI:=HCg.out;have QJ:=EG.out;rw[QH] at Oi QI QJ;have hmm:=hR.g.m _ (yX (l:=L) (i:=i) (by omega));have hmx:=yX (l:=L) (i:=i) (by omega);have QK:∀ j,j<8→((pat L i).1.m.st j).length≤800:=fun j hj=>U0.out _ (by rw[← hR.gg];exact cZ hmx) j hj
   clear hmx;generalize pat L i=p at *;obtain ⟨⟨pn,pr,pm,pz,⟨pf,pL,pG⟩⟩,ps⟩:=p;dsimp only at Oi QI QJ hmm QK hat;have il:∀ j,j<8→((vz ⟨pn,pr,pm,pz,⟨pf,pL,pG⟩⟩ key).m.st j).length≤10000:=by
    have h1:=zBL ⟨pn,pr,pm,pz,⟨pf,pL,pG⟩⟩ [key] (K:=800) QK;rw[Oi] at h1;exact fun j hj=>ak (h1 j hj) (by decide)
   have Af:=zh (fun W v (hb:Below wr.heap.size wr W) (hu:lT W v [key])=>Zr ⟨pn,pr,pm,pz,⟨pf,pL,pG⟩⟩ ps v [key] W (hmm.below hb).rd (fun j hj=>ak (QK j hj) (by decide)) hu (by simp));rw[Oi] at Af;have G5:=zh hmm;have CX:=zh il;generalize vz ⟨pn,pr,pm,pz,⟨pf,pL,pG⟩⟩ key=D at *;obtain ⟨dn,dr,dm,dz,⟨df,dL,dG⟩⟩:=D;dsimp only at Af CX;have Ab:=zh (fun W sA (hb:Below wr.heap.size wr W) (hm:fG W sA df)=>zEg Q.t (some ⟨gb,go,none⟩) gn gc L W (hR.g.rd.below hb) hR.gg (U0.out.mono (by decide)) ⟨dn,dr,dm,dz,⟨df,dL,dG⟩⟩ sA hm CX.out);rw[QI] at Ab;dsimp only at Ab;have e1:(pn==num)=true:=by simp[QJ]
   have HP:=zh hP;have HR:=zh hR;have hLd:∀ q∈L,iH wr B q.2 q.1.m.st:=hR.g.m;have M_:=zh hLd;clear Oi QI QJ hmm QK il hP hR hLd QH QG HI;obtain ⟨q0,q1,q2,q3,q4,q5,q6,q7,q8,q9,Dq,Dr,Ds,Dt⟩:=hat.q;dsimp only at q0 q1 q2 q3 q4 q5 q6 q7 q8 q9 Dq Dr Ds Dt;clear hat;go_wp2_with fail;have ew:=(aj wr.heap.size wr).alloc (ag _) (.cells #[.int .u64 key] 24);have Du:lT (wr.alloc (.cells #[.int .u64 key] 24)) (.slice (some ⟨wr.heap.size,0,none⟩) 1 1) [key]:=Rd.new wr 1 [.int .u64 key] 24 1 rfl (by decide);refine (Af.out _ _ ew Du).mono ?_;rintro e w4 ⟨⟨sA,rfl,ho⟩,hb⟩;dsimp only;replace hb:=zA ew hb;have HA:=zh (show iH w4 B sA df from iH.oo ho (G5.out.below hb));clear ho ew Du Af G5 q0 q1 q2 q3 q4 q5 q6 q7 q8 q9 Dq Dr Ds Dt p3;go_upto_region 5 with fail;change Code.wp _ _ _ _ (w4.alloc (.cells (zX dn dr dm dz sA dL dG) 113))
   have ew:=zZ w4 dn dr dm dz sA dL dG 113;have NM:=zh (dZ.new w4 (zX dn dr dm dz sA dL dG) 113);have JU:=zh (show iH _ B sA df from HA.out.below ew);replace hb:=zA hb ew;have QE:=zh hb;replace HP:=zh (HP.out.below hb);replace HR:=zh (HR.out.below hb);replace HB:=zh (HB.out.step hb AP);clear ew hb HA;generalize w4.alloc (.cells (zX dn dr dm dz sA dL dG) 113)=v5 at *;generalize w4.heap.size=b8 at *;have FQ:B≤v5.heap.size:=ak hB HB.out.size
   refine ye [eR (.pointer (some ⟨b,0,none⟩)),eR (.pointer (some ⟨b,0,none⟩)),eR (.pointer (some ⟨b,0,none⟩)),eR (.pointer (some ⟨b,0,none⟩)),eR (zO Q.t.id Q.t.lim Q.t.ro (some ⟨gb,go,none⟩) gn gc),eR (zd dn dr dm dz sA dL dG),QB B (P1.t,0),QB B (P1.t,0),zLK B P1.t,eR (.int .i64 0),eR (.pointer (some ⟨b,0,none⟩)),eR (.pointer (some ⟨b,0,none⟩))] [] 150 9 (by kernel_rfl) (by kernel_rfl) rfl rfl (by decide) (by rfl) (by kernel_rfl) (fun f=>by simp[fF,zT,Act.put];exact rfl) ?_ ?_ ?_
   ·
    refine ⟨?_,?_,?_,?_,?_,?_,?_,?_,?_,?_,?_,?_,trivial⟩
    ·
     intro f w1 hb hd;clear hd;dsimp only;go_wp2_with fail;exact pS rfl (by simp)
    ·
     intro f w1 hb hd;clear hd;dsimp only;go_wp2_with fail;exact pS rfl (by simp)
    ·
     intro f w1 hb hd;have d1:f 1=(.pointer (some ⟨b,0,none⟩)):=hd 1 (by kernel_rfl);clear hd;dsimp only;rw[d1];go_wp2_with fail;exact pS rfl (by simp)
    ·
     intro f w1 hb hd;have d2:f 2=(.pointer (some ⟨b,0,none⟩)):=hd 2 (by kernel_rfl);clear hd;dsimp only;rw[d2];go_wp2_with fail;exact pS rfl (by simp)
    ·
     intro f w1 hb hd;have d3:f 3=(.pointer (some ⟨b,0,none⟩)):=hd 3 (by kernel_rfl);clear hd;dsimp only;rw[d3];have hx:=HP.out.below hb;have q0:=hx.cell (i:=0) rfl;have q1:=hx.cell (i:=1) rfl;have q2:=hx.cell (i:=2) rfl;have q3:=hx.cell (i:=3) rfl;clear hx;go_wp2_with fail;exact pS rfl (by simp)
    ·
     intro f w1 hb hd;clear hd;dsimp only;have hx:=(NM.out.below hb).gen;obtain ⟨q0,q1,q2,q3,q4,q5,q6,q7,q8,q9,Dq,Dr,Ds,Dt⟩:=hx.q;clear hx;go_wp2_with fail;exact pS rfl (by simp)
    ·
     intro f w1 hb hd;have d4:f 4=(zO Q.t.id Q.t.lim Q.t.ro (some ⟨gb,go,none⟩) gn gc):=hd 4 (by kernel_rfl);have d5:f 5=(zd dn dr dm dz sA dL dG):=hd 5 (by kernel_rfl);clear hd;dsimp only;rw[d4];rw[d5];go_wp2_with fail;refine (Ab.out w1 sA (zA QE.out hb) (JU.out.below hb).rd).mono ?_;rintro e w9 ⟨⟨qa,qn,qc,qL,rfl,hown,Oa,hgn⟩,gI⟩;have oO:=zh (show gB w9 B (.slice qa qn qc) qL from gB.JO hown Oa (fun q hq=>((M_.out q hq).below (zA QE.out hb)).below gI) ((JU.out.below hb).below gI));have jU:=zh hgn;clear hown hgn Oa;go_wp2_with fail;exact ⟨rfl,gI,fun t ht=>by injection ht with ht;subst ht;exact ⟨⟨qa,qn,qc,qL,rfl,oO.out,jU.out⟩,fun h=>by simp at h⟩⟩
    ·
     intro f w1 hb hd;obtain ⟨a6,n6,c6,L6,d6,r6,g6⟩:=show ∃ a n c L,f 6=.tuple #[zO P1.t.id P1.t.lim P1.t.ro a n c,.int .i64 0]∧gB w1 B (.slice a n c) L∧ep L=P1.t.dY from hd 6 (by kernel_rfl);clear hd;dsimp only;rw[d6];have oO:=zh r6;have jU:=zh g6;clear r6 g6;go_wp2_with fail;exact ⟨rfl,aj _ _,fun t ht=>by injection ht with ht;subst ht;exact ⟨⟨a6,n6,c6,L6,rfl,oO.out,jU.out⟩,fun h=>by simp at h⟩⟩
    ·
     intro f w1 hb hd;obtain ⟨a7,n7,c7,L7,d7,r7,g7⟩:=show ∃ a n c L,f 7=.tuple #[zO P1.t.id P1.t.lim P1.t.ro a n c,.int .i64 0]∧gB w1 B (.slice a n c) L∧ep L=P1.t.dY from hd 7 (by kernel_rfl);clear hd;dsimp only;rw[d7];have oO:=zh r7;have jU:=zh g7;clear r7 g7;go_wp2_with fail;exact ⟨rfl,aj _ _,fun t ht=>by injection ht with ht;subst ht;exact ⟨⟨a7,n7,c7,L7,rfl,oO.out,jU.out⟩,fun h=>by simp at h⟩⟩
    ·
     intro f w1 hb hd;obtain ⟨a7,n7,c7,L7,d7,r7,g7⟩:=show ∃ a n c L,f 7=.tuple #[zO P1.t.id P1.t.lim P1.t.ro a n c,.int .i64 0]∧gB w1 B (.slice a n c) L∧ep L=P1.t.dY from hd 7 (by kernel_rfl);clear hd;dsimp only;rw[d7];clear r7 g7;go_wp2_with fail;exact pS rfl (by simp)
    ·
     intro f w1 hb hd;have d0:f 0=(.pointer (some ⟨b,0,none⟩)):=hd 0 (by kernel_rfl);clear hd;dsimp only;rw[d0];go_wp2_with fail;exact pS rfl (by simp)
    intro f w1 hb hd;have d10:f 10=(.pointer (some ⟨b,0,none⟩)):=hd 10 (by kernel_rfl);clear hd;dsimp only;rw[d10];go_wp2_with fail;exact pS rfl (by simp)
   ·
    intro f w8 hb hd jw;clear jw;obtain ⟨a8,n8,c8,L8,d8,r8,g8⟩:=show ∃ a n c L,f 8=zO P1.t.id P1.t.lim P1.t.ro a n c∧gB w8 B (.slice a n c) L∧ep L=P1.t.dY from hd 8 (show 8<12 by decide);have d11:f 11=.pointer (some ⟨b,0,none⟩):=hd 11 (show 11<12 by decide)
    try dsimp only
    rw[d8,d11];clear hd d8 d11;have gp:=HP.out.below hb;have HO:=gw.pts (T:=197) hlo ⟨_,_,gp⟩ (zR P1.t.id P1.t.lim P1.t.ro a8 n8 c8);have iW:AB (pts w8 b (zR P1.t.id P1.t.lim P1.t.ro a8 n8 c8)) b P1.t.id P1.t.lim P1.t.ro a8 n8 c8 Q.ey tk kv nv rv Q.bytes:=(by have h:=dZ.sets (zR P1.t.id P1.t.lim P1.t.ro a8 n8 c8) gp;rw[tj] at h;exact h)
    have iq:=((HR.out.below hb).slot P1.t r8 g8).gK HO;have G4:=zh (show l7 (pts w8 b (zR P1.t.id P1.t.lim P1.t.ro a8 n8 c8)) B b tk P1 from by rw[FZ.out];exact ⟨a8,n8,c8,L8,kv,ks,nv,es,rv,hlo,iW,iq⟩);have fV:=zh ((HB.out.step hb FQ).pts hlo (zR P1.t.id P1.t.lim P1.t.ro a8 n8 c8) ⟨_,_,gp⟩ (by decide));have q0:=gp.cell (i:=0) rfl;have q1:=gp.cell (i:=1) rfl;have q2:=gp.cell (i:=2) rfl;have q3:=gp.cell (i:=3) rfl;have qf:=gp.frozen;clear r8 g8 hb gp HO iW iq;generalize f 0=rI,f 1=rJ,f 2=pY,f 3=pZ,f 4=p_,f 5=q_,f 6=rK,f 7=B9,f 9=CQ,f 10=o6;clear f;change wpList _ _ _ (_::[]) _ _;go_wp2_with fail;exact ⟨⟨i+1,P1,by go_num,by omega,zh ⟨fun h=>absurd h (by omega),fun _=>rfl⟩,G4,fV⟩,by simp[intOf];omega⟩
   intro f w8 hb hd jw;clear jw;obtain ⟨a8,n8,c8,L8,d8,r8,g8⟩:=show ∃ a n c L,f 8=zO P1.t.id P1.t.lim P1.t.ro a n c∧gB w8 B (.slice a n c) L∧ep L=P1.t.dY from hd 8 (show 8<12 by decide) (show 8≠9 by decide);have d11:f 11=.pointer (some ⟨b,0,none⟩):=hd 11 (show 11<12 by decide) (show 11≠9 by decide);obtain ⟨a7,n7,c7,L7,d7,r7,g7⟩:=show ∃ a n c L,f 7=.tuple #[zO P1.t.id P1.t.lim P1.t.ro a n c,.int .i64 0]∧gB w8 B (.slice a n c) L∧ep L=P1.t.dY from hd 7 (show 7<12 by decide) (show 7≠9 by decide);clear r7 g7
   try dsimp only
   rw[d7,d8,d11];clear hd d7 d8 d11;have gp:=HP.out.below hb;have HO:=gw.pts (T:=197) hlo ⟨_,_,gp⟩ (zR P1.t.id P1.t.lim P1.t.ro a8 n8 c8);have iW:AB (pts w8 b (zR P1.t.id P1.t.lim P1.t.ro a8 n8 c8)) b P1.t.id P1.t.lim P1.t.ro a8 n8 c8 Q.ey tk kv nv rv Q.bytes:=(by have h:=dZ.sets (zR P1.t.id P1.t.lim P1.t.ro a8 n8 c8) gp;rw[tj] at h;exact h)
   have iq:=((HR.out.below hb).slot P1.t r8 g8).gK HO;have G4:=zh (show l7 (pts w8 b (zR P1.t.id P1.t.lim P1.t.ro a8 n8 c8)) B b tk P1 from by rw[FZ.out];exact ⟨a8,n8,c8,L8,kv,ks,nv,es,rv,hlo,iW,iq⟩);have fV:=zh ((HB.out.step hb FQ).pts hlo (zR P1.t.id P1.t.lim P1.t.ro a8 n8 c8) ⟨_,_,gp⟩ (by decide));have q0:=gp.cell (i:=0) rfl;have q1:=gp.cell (i:=1) rfl;have q2:=gp.cell (i:=2) rfl;have q3:=gp.cell (i:=3) rfl;have qf:=gp.frozen;clear r8 g8 hb gp HO iW iq;generalize f 0=rI,f 1=rJ,f 2=pY,f 3=pZ,f 4=p_,f 5=q_,f 6=rK,f 9=CQ,f 10=o6;clear f;change wpList _ _ _ (_::_::[]) _ _;go_wp2_with fail;exact ⟨⟨i+1,P1,by go_num,by omega,zh ⟨fun h=>absurd h (by omega),fun _=>rfl⟩,G4,fV⟩,by simp[intOf];omega⟩
  have hne:(eV Q.t.dY i).num≠num:=by
   by_cases h:i≤r
   ·
    rw[HI.out.lo h];exact HN0.out i hlt hir
   rw[HI.out.hi (by omega)];exact C7.out i hlt hir
  rw[QH] at hne;have q0:=hat.n0;clear hat;generalize pat L i=p at *;have e1:(p.1.num==num)=false:=by simp[hne]
  have fS:=zh (show UZ P P1 r gn num (i+1) Q from ⟨fun h=>HI.out.lo (by omega),fun h=>HI.out.hi (by omega)⟩);clear hP hR QH;go_wp2_with fail;exact ⟨⟨i+1,Q,by go_num,by omega,fS,QG,HB⟩,by simp[intOf];omega⟩
 have i1:¬ (i:Int)<(gn:Int):=by omega
 obtain rfl:Q=P1:=HI.out.hi (by omega);have hkk:Q.eu=P.eu:=by rw[FZ.out]
 obtain ⟨ka,kc,G9,oD,hk2,K9⟩:=zH hR.k.row;subst G9;have ri:iM ks=P.eu:=hR.kk.trans hkk;have J2:ks.length≤8:=by have h:=(show ou M P.eu from pN.out).Uk;rw[← ri,xX] at h;exact h
 have pd:gJ P.eu num≤ks.length:=by have h:=Qn P.eu num;rw[← ri,xX] at h;rw[← ri];exact h
 have Hu:∀ j,(yq P.eu j).1=(gY ks j).1:=fun j=>by rw[← ri,NP]
 have Oj:=zh (fun j (h:j<gJ P.eu num)=>show (gY ks j).1<num by rw[← Hu];exact Z_ P.eu num h);have Ol:=zh (show gJ P.eu num<ks.length→num≤(gY ks (gJ P.eu num)).1 from fun h=>by rw[← Hu];exact zII P.eu num (by rw[show P.eu.length=ks.length by rw[← ri,xX]];exact h));have G_:(decide (gJ P.eu num<ks.length)&&(gY ks (gJ P.eu num)).1==num)=decide (gJ P.eu num<P.eu.length∧(yq P.eu (gJ P.eu num)).1=num):=by
  rw[Hu,show P.eu.length=ks.length by rw[← ri,xX]]
  by_cases e1:gJ P.eu num<ks.length
  ·
   by_cases e2:(gY ks (gJ P.eu num)).1=num
   ·
    simp[e1,e2]
   simp[e1,e2]
  simp[e1]
 have Dy:=zh (zJ2 (num:=num) (key:=key) ri rfl);have Dz:=zh (show ¬ (gJ P.eu num<P.eu.length∧(yq P.eu (gJ P.eu num)).1=num)→kL P.eu num key=(iM ks).take (gJ P.eu num)++(num,[key])::(iM ks).drop (gJ P.eu num) from fun h=>by rw[ri];exact k9 h);have Lk:=zh (show ∀ x∈iM ks,x.2.length≤200000 from fun x hx=>by have:=pN.out.len x (by rw[← ri];exact hx);omega);have Ms:=zh G_;clear G_ Hu hkk ri;generalize gJ P.eu num=I at *;have HP:=zh hP;have HR:=zh hR;have HB:=HB;clear hP hR QG HI oO HCg HN0 C7 U0;obtain ⟨y0,hy0⟩:∃ y,y=wr:=⟨_,rfl⟩
 subst hy0;have p6:=HP.out.cell (i:=6) rfl
 go_upto_block 2 with fail
 clear p3
 go_cut [9] (fun v wx=>v=.int .i64 (I:Int)∧wx=y0)
 case first =>
  as_aux_lemma =>
  go_wp2_with fail
  go_loopw [9] (fun kv W=>∃ k:Nat,kv=.int .i64 (k:Int)∧k≤I∧W=y0) (fun kv _=>I-(intOf kv).toNat)
  case atStart=>exact ⟨0,rfl,aq _,rfl⟩
  obtain ⟨k,rfl,hk,hW⟩:=hrel;subst hW
  by_cases h1:k<ks.length
  ·
   have i1:(k:Int)<(ks.length:Int):=by omega
   obtain ⟨bk,ok,e0,hc0,_⟩:=mY.at (⟨fun x _=>xK x,zk HR.out.k.row⟩:mY wr (.slice ka ks.length kc) ks) h1;subst e0
   by_cases h2:(gY ks k).1<num
   ·
    have hkI:k<I:=by
     rcases bE k I with h|h
     ·
      exact h
     obtain rfl:k=I:=by omega
     have:=Ol.out h1;omega
    go_wp2_with fail;exact ⟨⟨k+1,by go_num,by omega,by first|rfl|trivial⟩,by simp[intOf];omega⟩
   have hkI:k=I:=by
    rcases bE k I with h|h
    ·
     exact absurd (Oj.out k h) h2
    omega
   subst hkI;go_wp2_with fail;go_meet
   case rel=>first|exact ⟨rfl,rfl⟩|exact ⟨rfl,trivial⟩
  have i1:¬ (k:Int)<(ks.length:Int):=by omega
  obtain rfl:k=I:=by omega
  go_wp2_with fail;go_meet
  case rel=>first|exact ⟨rfl,rfl⟩|exact ⟨rfl,trivial⟩
 obtain ⟨rfl,hwc⟩:=hcut;generalize wc=UU at *;replace hwc:=hwc.symm;subst hwc;obtain ⟨fo,hfo⟩:∃ fo,decide (I<P.eu.length∧(yq P.eu I).1=num)=fo:=⟨_,rfl⟩
 have G_:=Ms.out;rw[hfo] at G_;have IU:=zh hfo;have U1:=zh G_;clear hfo G_ Ms Oj Ol;go_upto_region 9 with fail
 go_cut [101] (fun v wx=>v=.bool fo∧wx=y0)
 case first =>
  by_cases h1:I<ks.length
  ·
   have i1:(I:Int)<(ks.length:Int):=by omega
   obtain ⟨bk,ok,e0,hc0,_⟩:=mY.at (⟨fun x _=>xK x,zk HR.out.k.row⟩:mY y0 (.slice ka ks.length kc) ks) h1;subst e0;have U2:fo=((gY ks I).1==num):=by rw[← U1.out,aC h1,bV]
   go_wp2_with fail;go_meet
   case rel=>exact ⟨by rw[U2],rfl⟩
  have i1:¬ (I:Int)<(ks.length:Int):=by omega
  have U2:fo=false:=by rw[← U1.out,aD h1,dt]
  go_wp2_with fail;go_meet
  case rel=>exact ⟨by rw[U2],rfl⟩
 obtain ⟨rfl,hwc⟩:=hcut;generalize wc=UU at *;replace hwc:=hwc.symm;subst hwc;clear U1
 cases fo
 rotate_left
 ·
  have hh:=bn IU.out;obtain ⟨hi2,mK,g3⟩:=Dy.out hh;have mA:=zh g3;have hkl:(gY ks I).2.2.length≤200000:=Lk.out _ (by have:=vJ (l:=iM ks) (i:=I) (by rw[xX];exact hi2);rw[NP] at this;exact this);clear g3 hh Dy Dz Lk IU;obtain ⟨g,e1,_,hgB,rW,hcK⟩:=zI1 HR.out.k hi2;subst e1;have A7:=HR.out.k.keys _ (uK hi2);obtain ⟨wa,UC,N0,_,_,_⟩:=zH A7;have ew:=zi ((aj y0.heap.size y0).alloc (ag _) (.cells #[.int .u64 key] 24));have oh:=zh (HP.out.below ew);have jW:=zh (HR.out.below ew);have mj:=zh (HB.out.step ew AP);have Ha:=jW.out.k.keys _ (uK hi2);have EZ:=ew.size;have E2:=zh (fun W1 v2 ho hg hat=>jW.out.put (W1:=W1) hi2 mK (v2:=v2) (l2:=(gY ks I).2.2++[key]) ho hg hat);have J4:=zh (fun W1 (hO:fA _ W1 B 24)=>zJw (yN jW.out.k.row hO (by decide)) hi2);rw[N0] at Ha E2 J4 hcK;clear A7 ew;generalize Qf:(gY ks I).2.2=kl at *
  clear Qf N0;have jO:=zh Ha;have FV:=zh (fun W (hg:(World.drew (y0.alloc (.cells #[.int .u64 key] 24))).grownBy W (Value.slice wa kl.length UC).ownBlock)=>fA.row Ha hg (ag B));clear Ha;have i1:(I:Int)<(ks.length:Int):=by omega
  have mD:=zh (fun W9 lJ lK (eG:World.ownsRow W9 B 24 1 (.slice lJ (kl.length+1) lK) (kl.length+1) (kl.map Eh++[.int .u64 key])) fp oW=>show l7 (W9.setCell ⟨g,I*2+1,none⟩ (.slice lJ (kl.length+1) lK)) B b tk PZ∧fc B w (W9.setCell ⟨g,I*2+1,none⟩ (.slice lJ (kl.length+1) lK)) by
   obtain ⟨r1,r2,r3⟩:=E2.out W9 (.slice lJ (kl.length+1) lK) (by rw[aw,bD];exact eG) fp oW
   have r4:fA W9 (W9.setCell ⟨g,I*2+1,none⟩ (.slice lJ (kl.length+1) lK)) B 103:=.inr ⟨g,r3⟩
   refine ⟨?_,(mj.out.own jO.out (ak AP EZ) fp (by decide)).eY r4 (by decide) (zD (B:=B) (b:=g) hgB [(I*2+1,.slice lJ (kl.length+1) lK)] (zL mj.out.b jO.out (ak AP EZ) fp))⟩
   rw[Bl.out,← mA.out]
   exact ⟨ga,gn,gc,L,_,_,nv,es,rv,hlo,(oh.out.eY r2 (by decide)).eY r4 (by decide),r1⟩)
  have UE:=oh.out.cell (i:=6) rfl;obtain ⟨UF,UG⟩:=J4.out _ (.inl (aj _ _));go_upto_region 10 with fail
  go_region_law ((refine qm (n:=kl.length) (by rfl) (.tmp 116) (.tmp 118) 87 (by rfl) TR B (by rfl) jO.out (ad:=⟨y0.heap.size,0,none⟩) (m:=1) (c:=1) (news:=[.int .u64 key]) (by rfl) (by rfl) (zDh y0 key _ rfl) (fun u hu=>by simp only[aX,aY,aZ] at hu;rw[hu];rfl) (by unfold maxLen;omega) (by omega) (by simp;omega) ?_;intro v9 w9 eG fp oW;obtain ⟨lJ,lK,hv2,_,_,_⟩:=zH eG;subst hv2;have oP:=FV.out _ fp;have gO:=oh.out.eY oP (by decide);have c6:=gO.cell (i:=6) rfl;obtain ⟨c9,f9⟩:=J4.out _ oP;clear gO oP))
  all_goals
   obtain ⟨z1,z4⟩:=mD.out _ _ _ eG fp oW;have Z1:=zh z1;have Z4:=zh z4;clear z1 z4 eG fp oW c6 c9 f9 UE UF UG p6 hcK mD;go_wp2_with fail
   (try simp only[Exit.inBlock,Exit.then])
   refine au (results_none rfl _ _ _) rfl ?_;exact ⟨rfl,Z1.out,Z4.out⟩
 have hh:=cS IU.out;have mA:=zh (Dz.out hh);clear hh Dy Dz Lk IU;obtain ⟨dk,cdk,hfr,gW,_⟩:=wt (P:=Tryz.prog) Lp (zk HR.out.k.row) I pd;have Ga:=yl (P:=Tryz.prog) Lp (a:=ka) (n:=ks.length) (cap:=kc) K9 I (by omega);rw[(qz pd).2] at gW;have Bi:=zh gW;have Bj:=zh (show ∀ (W:World),W.ownsRow B 103 2 (.slice ka ks.length kc) ks.length (ks.flatMap gU)→W.ownsRow B 103 2 (.slice ka I kc) I ((ks.take I).flatMap gU) from fun W h=>by have h1:=vC h I pd;rwa [(qz pd).1] at h1);have jH:=zh (zLf ks HR.out.k.Fa);have HSh:=zh HR.out.k.Fa;clear gW;obtain ⟨w2,hw2⟩:∃ w2,y0.alloc (.cells #[] 103)=w2:=⟨_,rfl⟩
 have CH:=cI (e:=103) (size:=2) y0 #[] 0 (ag y0.heap.size) (by decide) rfl;have ew:Below y0.heap.size y0 w2:=hw2▸(aj y0.heap.size y0).alloc (ag _) (.cells #[] 103);rw[hw2] at CH;have p6a:=(HP.out.below ew).cell (i:=6) rfl;have Om:=zh (Bi.out.below ew);go_upto_region 12 with (at_builtin;go_must (refine zP rfl (.tmp 122) (.tmp 129) 76 rfl Lp y0.heap.size rfl CH rfl Om.out (fun u hu=>jH.out u (by obtain ⟨x,hx,hu⟩:=List.mem_flatMap.1 hu;exact List.mem_flatMap.2 ⟨x,cN hx,hu⟩)) (by unfold maxLen;omega) (by omega) ew.size ?_;intro v3 w3 ei eL hv3;clear hv3;rw[aI,bQ] at ei;obtain ⟨ra,rc,rfl,_⟩:=zH ei;have hb3:=zL ew CH ew.size eL));have B_:=hb3.size;have Oo:∀ p∈ks,p.2.1.ownBlock≠some w3.heap.size:=fun p hp e=>by
  have:=((HR.out.k.keys p hp).lt _ e).2;omega
 have U3:∀ x,ra=some x→some x.block≠(Value.slice ka I kc).ownBlock:=fun x hx e=>by
  subst hx;have h1:=(ei.lt x.block rfl).1;have h2:(Value.slice ka ks.length kc).ownBlock=some x.block:=by
   cases ka with
   |none=>cases e
   |some y=>exact e.symm
  have h3:=(HR.out.k.row.lt _ h2).2;omega
 have oC:=zh ei;have FK:B≤w3.heap.size:=ak AP B_;obtain ⟨w4,hw4⟩:∃ w4,w3.alloc (.cells #[.int .u64 key] 24)=w4:=⟨_,rfl⟩
 have hk4:=World.ownsRow_lit (e:=24) (size:=1) w3 #[.int .u64 key] 1 FK (by decide) rfl;have hb4:Below w3.heap.size w3 w4:=hw4▸(aj w3.heap.size w3).alloc (ag _) (.cells #[.int .u64 key] 24);rw[hw4] at hk4;obtain ⟨w5,hw5⟩:∃ w5,w4.alloc (.cells #[.int .i64 num,.slice (some ⟨w3.heap.size,0,none⟩) 1 1] 103)=w5:=⟨_,rfl⟩
 have hr5:=Rd.new w4 2 [.int .i64 num,.slice (some ⟨w3.heap.size,0,none⟩) 1 1] 103 1 rfl (by decide);have hb5:Below w4.heap.size w4 w5:=hw5▸(aj w4.heap.size w4).alloc (ag _) (.cells #[.int .i64 num,.slice (some ⟨w3.heap.size,0,none⟩) 1 1] 103);rw[hw5] at hr5;have Fb:=zA hb4 hb5;have UH:=zh (HP.out.below (hb3.trans (Fb.mono B_)));have jx:=zh (HR.out.below (hb3.trans (Fb.mono B_)));have gH:=zh ((HB.out.step hb3 AP).step Fb FK);have Qh:=zh (zG oC.out Fb);have Fc:=zh (zG hk4 hb5);have jN:=zh (Bj.out w5 jx.out.k.row);have FQ:B≤w5.heap.size:=ak FK Fb.size;have p6:=(HP.out.below hb3).cell (i:=6) rfl
 have mD:=zh (fun w6 w7 a6 c6 a7 c7 (h6:w6.ownsRow B 103 2 (.slice a6 (I+1) c6) (I+1) ((ks.take I).flatMap gU++[.int .i64 num,.slice (some ⟨w3.heap.size,0,none⟩) 1 1])) (g6:w5.grownBy w6 (Value.slice ka I kc).ownBlock) (h7:w7.ownsRow B 103 2 (.slice a7 (I+1+(ks.length-I)) c7) (I+1+(ks.length-I)) ((ks.take I).flatMap gU++[.int .i64 num,.slice (some ⟨w3.heap.size,0,none⟩) 1 1]++(ks.drop I).flatMap gU)) (g7:w6.grownBy w7 (Value.slice a6 (I+1) c6).ownBlock) =>
  show AB w7 b Q.t.id Q.t.lim Q.t.ro ga gn gc Q.ey tk (.slice ka ks.length kc) nv rv Q.bytes∧l7 (w7.setCell ⟨b,6,none⟩ (.slice a7 (I+1+(ks.length-I)) c7)) B b tk PZ∧fc B w (w7.setCell ⟨b,6,none⟩ (.slice a7 (I+1+(ks.length-I)) c7)) from by
   have O6:=fA.row jN.out g6 (ag B)
   have O7:=fA.row h6 g7 (ag B)
   have P7:=(UH.out.eY O6 (by decide)).eY O7 (by decide)
   have B6:=gH.out.own jN.out FQ g6 (by decide)
   have B7:=B6.own h6 (ak hB B6.size) g7 (by decide)
   have O8:gw w7 (w7.setCell ⟨b,6,none⟩ (.slice a7 (I+1+(ks.length-I)) c7)) B b 197:=gw.pts hlo ⟨_,_,P7⟩ [(6,.slice a7 (I+1+(ks.length-I)) c7)]
   refine ⟨P7,?_,B7.pts hlo [(6,.slice a7 (I+1+(ks.length-I)) c7)] ⟨_,_,P7⟩ (by decide)⟩
   rw[show I+1+(ks.length-I)=ks.length+1 by omega] at h7 O8 ⊢
   have K7:ic w7 B (.slice a7 (ks.length+1) c7) (ks.take I++(num,.slice (some ⟨w3.heap.size,0,none⟩) 1 1,[key])::ks.drop I):=
    ic.US pd jx.out.k.apart (fun p hp=>yN (yN (jx.out.k.keys p hp) O6 (by decide)) O7 (by decide)) num key _ h7 (yN (yN Fc.out O6 (by decide)) O7 (by decide)) Oo
   have M7:px w7 B {Q with eu:=iM (ks.take I++(num,.slice (some ⟨w3.heap.size,0,none⟩) 1 1,[key])::ks.drop I)} ga gn gc L (.slice a7 (ks.length+1) c7) (ks.take I++(num,.slice (some ⟨w3.heap.size,0,none⟩) 1 1,[key])::ks.drop I) nv es rv:=
    ⟨(jx.out.g.eY O6 (by decide) (by decide)).eY O7 (by decide) (by decide),jx.out.gg,K7,rfl,(jx.out.n.eY O6 (by decide) (by decide)).eY O7 (by decide) (by decide),jx.out.nn,yN (yN jx.out.r O6 (by decide)) O7 (by decide)⟩
   have E:PZ={Q with eu:=iM (ks.take I++(num,.slice (some ⟨w3.heap.size,0,none⟩) 1 1,[key])::ks.drop I)}:=by
    rw[Bl.out,mA.out]
    unfold iM
    rw[bD,List.map_cons,List.map_take,List.map_drop]
   rw[E]
   exact ⟨ga,gn,gc,L,_,_,nv,es,rv,hlo,by have h:=dZ.set P7 6 (.slice a7 (ks.length+1) c7);rw[zLu] at h;exact h,M7.gK O8⟩)
 clear hk4 hb4 hb5 HR HP HB Bi Om CH eL p6a Bj Oo;go_wp2_with (at_builtin;first|(refine zP rfl (.tmp 138) (.tmp 143) 76 rfl Lp B rfl jN.out rfl hr5 (fun u hu=>by simp only[aX,aY,aZ] at hu;rcases hu with h|h<;>rw[h]<;>rfl) (by unfold maxLen;omega) (by omega) FQ ?_;intro v6 w6 iV mS Gb;clear Gb;obtain ⟨a6,c6,Gb,_⟩:=zH iV;subst Gb;have hS6:=(zk Qh.out).grown mS U3;have IF:B≤w6.heap.size:=ak FQ mS.size)|(refine zP rfl (.tmp 144) (.tmp 145) 76 rfl Lp B rfl iV rfl hS6 (fun u hu=>jH.out u (by obtain ⟨x,hx,hu⟩:=List.mem_flatMap.1 hu;exact List.mem_flatMap.2 ⟨x,cN hx,hu⟩)) (by unfold maxLen;omega) (by omega) IF ?_;intro v7 w7 IV U4 U5;clear U5;obtain ⟨a7,c7,U5,_⟩:=zH IV;subst U5;obtain ⟨Hl,hm7,oG⟩:=mD.out w6 w7 a6 c6 a7 c7 iV mS IV U4;have z6:=Hl.cell (i:=6) rfl;have zf:=Hl.frozen 6));go_end0;exact ⟨rfl,hm7,oG⟩
end Go.Proofs.YtcgfilmmokmdjaaGreat
