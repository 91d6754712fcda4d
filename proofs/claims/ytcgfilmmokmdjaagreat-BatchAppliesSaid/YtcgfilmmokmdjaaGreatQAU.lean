import Derived.Test.YtcgfilmmokmdjaaGreatQAT
import Derived.Deep.CutBlock
set_option linter.all false
set_option maxRecDepth 100000
set_option maxHeartbeats 32000000
namespace Go.Proofs.YtcgfilmmokmdjaaGreat
open Go.Proofs.Tryz
open Go.RowKit
def zIL (i l:Int) (r:Bool) (a:Option Addr) (n c:Nat) (L:List GP) (w:World) (h:fB w (.slice a n c) L) (hs:∀ p∈L,∀ j,j<8->(p.1.m.st j).length<=10000) (m:Int) :
  Calls prog 153 #[zQ i l r a n c,.int .i64 m] w fun e w'=>e=.returned (.bool (xA ⟨i,l,r,ey L⟩ m))/\Below w.heap.size w w':=by
 have fV:=zh (fun W (hb:Below w.heap.size w W)=>zt i l r a n c L W (h.bb hb) hs);have HZ:=zh (fun W=>(Nt m.toNat W).mono (R':=fun e w'=>e=.returned (.int .i64 ((eY m.toNat:Nat):Int))/\Below W.heap.size W w') fun _ _ ⟨he,hw⟩=>⟨he,hw▸aj _ _⟩);have eO:=zh (fp.new w i l r a n c 31);have eP:=zh (zR w i l r a n c 31);have hcs:xA ⟨i,l,r,ey L⟩ m=(zb ⟨i,l,r,ey L⟩&&(decide (0<=m)&&decide (m<=4096))&&decide ((zZ ⟨i,l,r,ey L⟩).size+(eY m.toNat:Nat)<=l)):=rfl
 cases hv:zb ⟨i,l,r,ey L⟩
 ·rw[hv] at fV hcs;have HF:=zh (show xA ⟨i,l,r,ey L⟩ m=false by rw[hcs];rfl);clear h hs hv hcs;generalize xA ⟨i,l,r,ey L⟩ m=F at *
  go_enter func153,ntmps153
  go_upto_region 1 with fail;obtain ⟨W,hW⟩:∃ W,w.alloc (.cells (zM i l r a n c) 31)=W:=⟨_,rfl⟩
  change Code.wp _ _ _ _ (w.alloc (.cells (zM i l r a n c) 31));rw[hW] at eO eP |-;clear hW;have pH:=eO.o.lt;have k0:=zB eO.o.c0;have k1:=zB eO.o.c1;have k2:=zB eO.o.c2;have k3:=zB eO.o.c3;have mI:=zh (fun W' (hb:Below W.heap.size W W')=>fV.o W' (zA eP.o hb));refine zD (by kernel_rfl) (by kernel_rfl) ?_
  repeat (go_big_quiet_step ((first|exact zH (mI.o _ (eD.h _))|exact zH (HZ.o _))))
  refine ay ?_;intro _ hw';obtain ⟨q,hw'⟩:=hw';subst hw';have HQ:=zh (zA eP.o q.h);clear k0 k1 k2 k3;go_wp2_with fail;go_ret;exact ⟨by rw[HF.o];rfl,HQ.o⟩
 by_cases h1:m<0
 ·rw[hv] at fV hcs;have HF:=zh (show xA ⟨i,l,r,ey L⟩ m=false by rw[hcs,show decide (0<=m)=false by simp;omega];rfl);have e1:decide (0<=m)=false:=by simp;omega
  clear h hs hv hcs;generalize xA ⟨i,l,r,ey L⟩ m=F at *
  go_enter func153,ntmps153
  go_upto_region 1 with fail;obtain ⟨W,hW⟩:∃ W,w.alloc (.cells (zM i l r a n c) 31)=W:=⟨_,rfl⟩
  change Code.wp _ _ _ _ (w.alloc (.cells (zM i l r a n c) 31));rw[hW] at eO eP |-;clear hW;have pH:=eO.o.lt;have k0:=zB eO.o.c0;have k1:=zB eO.o.c1;have k2:=zB eO.o.c2;have k3:=zB eO.o.c3;have mI:=zh (fun W' (hb:Below W.heap.size W W')=>fV.o W' (zA eP.o hb));refine zD (by kernel_rfl) (by kernel_rfl) ?_
  repeat (go_big_quiet_step ((first|exact zH (mI.o _ (eD.h _))|exact zH (HZ.o _))))
  refine ay ?_;intro _ hw';obtain ⟨q,hw'⟩:=hw';subst hw';have HQ:=zh (zA eP.o q.h);clear k0 k1 k2 k3;go_wp2_with fail;go_ret;exact ⟨by rw[HF.o];rfl,HQ.o⟩
 by_cases h2:4096<m
 ·rw[hv] at fV hcs;have HF:=zh (show xA ⟨i,l,r,ey L⟩ m=false by rw[hcs,show decide (m<=4096)=false by simp;omega];simp);have e1:decide (0<=m)=true:=by simp;omega
  have e2:decide (m<=4096)=false:=by simp;omega
  clear h hs hv hcs;generalize xA ⟨i,l,r,ey L⟩ m=F at *
  go_enter func153,ntmps153
  go_upto_region 1 with fail;obtain ⟨W,hW⟩:∃ W,w.alloc (.cells (zM i l r a n c) 31)=W:=⟨_,rfl⟩
  change Code.wp _ _ _ _ (w.alloc (.cells (zM i l r a n c) 31));rw[hW] at eO eP |-;clear hW;have pH:=eO.o.lt;have k0:=zB eO.o.c0;have k1:=zB eO.o.c1;have k2:=zB eO.o.c2;have k3:=zB eO.o.c3;have mI:=zh (fun W' (hb:Below W.heap.size W W')=>fV.o W' (zA eP.o hb));refine zD (by kernel_rfl) (by kernel_rfl) ?_
  repeat (go_big_quiet_step ((first|exact zH (mI.o _ (eD.h _))|exact zH (HZ.o _))))
  refine ay ?_;intro _ hw';obtain ⟨q,hw'⟩:=hw';subst hw';have HQ:=zh (zA eP.o q.h);clear k0 k1 k2 k3;go_wp2_with fail;go_ret;exact ⟨by rw[HF.o];rfl,HQ.o⟩
 have fT:L.length=n:=by
  obtain ⟨_,_,e,_⟩:=h.shape;injection e with _ e _;exact e.symm
 have hV:=(zX _).1 hv;have hn:1<=n/\n<=8:=by have:=hV.len;simp only[zk,fT] at this;exact this
 obtain ⟨j,rfl⟩:∃ j,n=j+1:=⟨n-1,by omega⟩
 have hg:=hV.vg (i:=j) (by show j<(ey L).length;rw[zk];omega);simp only[yj] at hg;have hz1:=hg.size.1;have hz2:=hg.size.2.1;rw[hv] at fV hcs;rw[wZ fT,show decide (0<=m)=true by simp;omega,show decide (m<=4096)=true by simp;omega] at hcs;have HF:=zh (show xA ⟨i,l,r,ey L⟩ m=decide ((pat L j).1.size+(eY m.toNat:Nat)<=l) by rw[hcs];simp);obtain ⟨k,rfl⟩:∃ k:Nat,m=(k:Int):=⟨m.toNat,by omega⟩
 rw[dR] at HF HZ;have Wb:eY k<=4127:=wI k;have e1:decide ((0:Int)<=(k:Int))=true:=by simp
 have e2:decide ((k:Int)<=4096)=true:=by simp;omega
 have HR:=zh h;clear h hs hv hcs hV fT hg;generalize xA ⟨i,l,r,ey L⟩ (k:Int)=F at *;generalize eY k=z at *;obtain ⟨b,off,rfl,hg⟩:=HR.o.at (show j<j+1 by omega);have HG:=zh hg;clear hg HR;generalize pat L j=p at *;obtain ⟨⟨num,rev,md,sz,f,LV,GA⟩,s⟩:=p;dsimp only at *;have j3:IntKind.i64.wrap (j:Int)=(j:Int):=aF _ (by omega);have i2:(j:Int)<((j+1:Nat):Int):=by omega
 have j5:IntKind.i64.wrap (sz+(z:Int))=sz+(z:Int):=aF _ (by omega)
 go_enter func153,ntmps153
 go_upto_region 1 with fail;obtain ⟨W,hW⟩:∃ W,w.alloc (.cells (zM i l r (some ⟨b,off,none⟩) (j+1) c) 31)=W:=⟨_,rfl⟩
 change Code.wp _ _ _ _ (w.alloc (.cells (zM i l r (some ⟨b,off,none⟩) (j+1) c) 31));rw[hW] at eO eP |-;clear hW;have pH:=eO.o.lt;have k0:=zB eO.o.c0;have k1:=zB eO.o.c1;have k2:=zB eO.o.c2;have k3:=zB eO.o.c3;have mI:=zh (fun W' (hb:Below W.heap.size W W')=>fV.o W' (zA eP.o hb));have g3:=zB (HG.o.bb eP.o).n3;dsimp only at g3;refine zD (by kernel_rfl) (by kernel_rfl) ?_
 repeat (go_big_quiet_step ((first|exact zH (mI.o _ (eD.h _))|exact zH (HZ.o _))))
 refine ay ?_;intro _ hw';obtain ⟨q,hw'⟩:=hw';subst hw';have HQ:=zh (zA eP.o q.h);clear k0 k1 k2 k3 g3;go_wp2_with fail;go_ret;exact ⟨by rw[HF.o];rfl,HQ.o⟩
def zM8 (s:fk) (a:Option Addr) (n c:Nat) (L:List GP) (W:World) (hr:fB W (.slice a n c) L) (hg:ey L=s.ep) (hl:fF 1000 s.ep) (m:Int) :
  Calls prog 153 #[zQ s.id s.lim s.ro a n c,.int .i64 m] W fun e w'=>e=.returned (.bool (xA s m))/\Below W.heap.size W w':=by
 have h:=zIL s.id s.lim s.ro a n c L W hr (yx (hg▸hl) (by decide)) m;obtain ⟨i,l,r,g⟩:=s;dsimp only at hg h |-;subst hg;exact h
def zKV (s:fk) (a:Option Addr) (n c:Nat) (L:List GP) (W:World) (hr:fB W (.slice a n c) L) (hg:ey L=s.ep) (hl:fF 1000 s.ep) :
  Calls prog 84 #[zQ s.id s.lim s.ro a n c] W fun e w'=>e=.returned (.bool (wu s))/\Below W.heap.size W w':=by
 have h:=qG s.id s.lim s.ro a n c L W hr (yx (hg▸hl) (by decide));obtain ⟨i,l,r,g⟩:=s;dsimp only at hg h |-;subst hg;exact h
def zEc {t:fk} {q:Rq} (h:¬ 4096<q.data.length):yI t q=if xA t (q.data.length:Int)=true then 0 else 9:=by unfold yI;rw[ai h]
def zDj {P:fP} (h:AY P) (n:Nat):ub P n=false↔(0<P.bytes/\16384<P.bytes+(eY n:Int)):=by
 unfold ub;rw[h.room]
 by_cases e1:0<P.needs.length
 ·by_cases e2:16384<P.bytes+(eY n:Int)
  ·simp[e1,e2]
  simp[e1,e2]
 simp[e1]
def zJL {w:World} {B b:Nat} {tk:Int} {P:fP} (hM:mX w B b tk P) (hB:B<=w.heap.size) (hl:fF 800 P.t.ep) (QI:AY P) (hby:0<=P.bytes/\P.bytes<=1000000000) (hel:P.needs.length<=900) (Mx:P.res.length<16) (RQ:tk=(P.res.length:Int)) (q:Rq) (hq1:q.kind=1) (rt rk key ck:Int) (da:Option Addr) (dn dc:Nat) (Av:(q.key:Int)=key) (Cx:(q.ck:Int)=ck) (hd:gD w B (.slice da dn dc) q.data) (lu:q.data.length=dn) (iz:dn<=100000) :
  Calls prog 110 #[.pointer (some ⟨b,0,none⟩),Eg rt rk key ck (.slice da dn dc)] w fun e w'=>e=.returned (.bool (zq P q).1)/\mX w' B b tk (zq P q).2/\fD B w w':=by
 have hq:=hq1;have p_:¬ P.res.length=16:=by omega
 obtain ⟨ga,gn,gc,L,kv,ks,nv,es,rv,hlo,hP,hR⟩:=hM;have GR:es.length<=1000:=by
  have h:=aM List.length hR.nn;rw[aH] at h;omega
 have Dv:=zh (fun W (hb:Below w.heap.size w W)=>zM8 P.t ga gn gc L W (hR.g.rd.bb hb) hR.gg (hl.mono (by decide)) (dn:Int));have BM:=zh (fun W (hb:Below w.heap.size w W)=>zKV P.t ga gn gc L W (hR.g.rd.bb hb) hR.gg (hl.mono (by decide)));have lL:=zh (fun W (hb:Below w.heap.size w W)=>zDC (w:=W) (B:=B) (b:=b) (tk:=tk) (P:=P) hlo (hP.bb hb) (hR.bb hb) (hl.mono (by decide)) (ak hB hb.size) (uA q) da dn dc (show gD W B _ _ from iI.bb hd hb) lu iz GR hby);have Ei:=zh hP;have j_:=zh hR;have Ga:=zh QI;have C0:=zh RQ;clear RQ;have hkey:((uA q).key:Int)=key:=Av;have hck:((uA q).ck:Int)=ck:=Cx;have hdel:(uA q).del=false:=rfl;rw[hkey,hck,hdel] at lL
 have DF:=zh (fun W (hb:Below w.heap.size w W) (c:Bool)=>show mX (W.setCell ⟨b,4,none⟩ (.bool c)) B b tk {P with eH:=c} from by
  have hp:=hP.bb hb
  have hO:gO W (W.setCell ⟨b,4,none⟩ (.bool c)) B b 197:=gO.pts hlo ⟨_,_,hp⟩ [(4,.bool c)]
  have C5:=(hR.bb hb).ik hO
  refine ⟨ga,gn,gc,L,kv,ks,nv,es,rv,hlo,?_,⟨C5.g,C5.gg,C5.k,C5.kk,C5.n,C5.nn,C5.r⟩⟩
  have h:=hp.set 4 (.bool c)
  rw[zMp] at h;exact h)
 have Aw:=zh (fun W (h:fD B w W) (hb:Below w.heap.size w W) (c:Bool)=>show fD B w (W.setCell ⟨b,4,none⟩ (.bool c)) from h.pts hlo [(4,.bool c)] ⟨_,_,hP.bb hb⟩ (by decide));have BO:=zh (fun W (hb:Below w.heap.size w W)=>show mX W B b tk P from ⟨ga,gn,gc,L,kv,ks,nv,es,rv,hlo,hP.bb hb,hR.bb hb⟩);have fS:b<w.heap.size:=hP.lt;clear hP hR hl QI hd Av Cx hkey hck hdel GR
 go_enter func110,ntmps110
 go_upto_region 1 with fail;change Code.wp _ _ _ _ (.alloc _ (.cells _ 63));obtain ⟨w1,hV,eG,HX⟩:=dY w #[.int .i64 rt,.int .i64 rk,.int .u64 key,.int .u32 ck,.slice da dn dc] 63;rw[hV];clear hV;have oO:=zh eG;have BV:=zh (Ei.o.bb eG);clear eG;generalize oU:w.heap.size=b3 at *;have hz1:w.heap.size<=b3:=by omega
 have hz2:b3<=w.heap.size:=by omega
 clear oU;have x4:=HX.o.cell (i:=4) rfl
 by_cases hbig:4096<dn
 ·have i1:(4096:Int)<(dn:Int):=by omega
  have TI:yI P.t q=8:=by unfold yI;rw[ah (by omega)]
  have hpl:=tT p_ hq (by rw[TI];exact fun h=>absurd h.1 (by decide)) (by rw[TI];decide);rw[TI] at hpl;have HF:=zh hpl;have HM:=zh (BO.o w1 oO.o);have HB:Hid (fD B w w1):=zh (fD.of (oO.o.mono (hz1)) (ak hB hz2));have By:B<=w1.heap.size:=(ak (ak hB hz2) oO.o.size)
  clear hpl TI Dv BM lL DF Aw BO;go_upto_region 2 with fail;obtain ⟨jo,jq,gc',L',sL,pd,oT,es',E2,jU,sN,sO⟩:=HM.o;obtain ⟨QJ,QK,sP,GU,GV,_⟩:=zG sO.r;subst sP;have q8:=sN.cell (i:=8) rfl;have eG:=(aj w1.heap.size w1).alloc (ag _) (.cells #[.int .i64 8] 39);have pQ:=zh (sN.bb eG);have lS:=zh (sO.bb eG);have h_:=zh (HB.o.step eG By);have iE:=zh lS.o.r;have rJ:=ak By eG.size;clear eG sN sO HM HB
  go_wp2_with (at_builtin;go_must (refine zP (n:=P.res.length) (m:=1) rfl (.tmp 14) (.tmp 15) 69 rfl kj B rfl iE.o rfl (Rd.jR w1.heap.size w1 rfl 1 [.int .i64 8] 39 1 rfl (by decide)) (fun u hu=>by simp only[bp,bt,bu] at hu;rw[hu];rfl) (by unfold maxLen;omega) (by omega) rJ ?_);intro v3 w3 eB eW hv3;clear hv3;obtain ⟨oa,oc,ev,_,_,_⟩:=zG eB;subst ev;have iA:=pQ.o.fC (fM.row iE.o eW (ag B)) (by decide);have c8:=iA.cell (i:=8) rfl;have f8:=iA.frozen 8);have jP:gO w3 (w3.setCell ⟨b,8,none⟩ (.slice oa (P.res.length+1) oc)) B b 197:=gO.pts jU ⟨_,_,iA⟩ [(8,.slice oa (P.res.length+1) oc)];have nD:=zh ((lS.o.res 8 eW eB).1.ik jP)
  have oQ:Hid (BU (w3.setCell ⟨b,8,none⟩ (.slice oa (P.res.length+1) oc)) b P.t.id P.t.lim P.t.ro jo jq gc' P.eH tk sL oT (.slice oa (P.res.length+1) oc) P.bytes):=zh ((by have h:=iA.set 8 (.slice oa (P.res.length+1) oc);rw[N0] at h;exact h));have jL:=zh ((h_.o.own iE.o rJ eW (by decide)).pts jU [(8,.slice oa (P.res.length+1) oc)] ⟨_,_,iA⟩ (by decide));clear eB eW iA jP c8 f8 q8;go_wp2_with fail;go_ret;exact ⟨by rw[HF.o];try rfl,by rw[HF.o];exact ⟨jo,jq,gc',L',sL,pd,oT,es',_,jU,oQ.o,nD.o⟩,jL.o⟩
 have i1:¬ (4096:Int)<(dn:Int):=by omega
 have FF:=zEc (t:=P.t) (q:=q) (by omega);rw[lu] at FF;go_upto_region 4 with fail;clear x4
 go_cut [28] (fun v wx=>v=.bool (!xA P.t (dn:Int))/\Hid (Below w1.heap.size w1 wx))
 case first =>
  refine vD [eT (.pointer (some ⟨b,0,none⟩)),eT (.pointer (some ⟨b,0,none⟩)),eT (.pointer (some ⟨b,0,none⟩)),eT (zQ P.t.id P.t.lim P.t.ro ga gn gc),eT (.pointer (some ⟨b3,4,none⟩)),eT (.slice da dn dc),eT (.int .i64 (dn:Int)),eT (.bool (xA P.t (dn:Int))),eT (.bool (!xA P.t (dn:Int)))] 76 (by kernel_rfl) (by kernel_rfl) (by kernel_rfl) (by rfl) (by kernel_rfl) (fun f=>by simp[fU,zW,Act.put];exact rfl) ?_ ?_
  ·refine ⟨?_,?_,?_,?_,?_,?_,?_,?_,?_,trivial⟩
   ·intro f w2 hb hd;clear hd;dsimp only;go_wp2_with fail;exact pS rfl (by simp)
   ·intro f w2 hb hd;have d0:f 0=_:=hd 0 (by kernel_rfl);clear hd;dsimp only;rw[d0];go_wp2_with fail;exact pS rfl (by simp)
   ·intro f w2 hb hd;have d1:f 1=_:=hd 1 (by kernel_rfl);clear hd;dsimp only;rw[d1];go_wp2_with fail;exact pS rfl (by simp)
   ·intro f w2 hb hd;have d2:f 2=_:=hd 2 (by kernel_rfl);clear hd;dsimp only;rw[d2];have hx:=BV.o.bb hb;have q0:=hx.cell (i:=0) rfl;have q1:=hx.cell (i:=1) rfl;have q2:=hx.cell (i:=2) rfl;have q3:=hx.cell (i:=3) rfl;clear hx;go_wp2_with fail;exact pS rfl (by simp)
   ·intro f w2 hb hd;clear hd;dsimp only;go_wp2_with fail;exact pS rfl (by simp)
   ·intro f w2 hb hd;have d4:f 4=_:=hd 4 (by kernel_rfl);clear hd;dsimp only;rw[d4];have q4:=(HX.o.bb hb).cell (i:=4) rfl;go_wp2_with fail;exact pS rfl (by simp)
   ·intro f w2 hb hd;have d5:f 5=_:=hd 5 (by kernel_rfl);clear hd;dsimp only;rw[d5];go_wp2_with fail;exact pS rfl (by simp)
   ·intro f w2 hb hd;have d3:f 3=_:=hd 3 (by kernel_rfl);have d6:f 6=_:=hd 6 (by kernel_rfl);clear hd;dsimp only;rw[d3];rw[d6];go_wp2_with fail;refine (Dv.o w2 (oO.o.trans (hb.mono (ak hz2 oO.o.size)))).mono ?_;rintro e w9 ⟨rfl,gy⟩;go_wp2_with fail;exact pT rfl (by simp) gy
   intro f w2 hb hd;have d7:f 7=_:=hd 7 (by kernel_rfl);clear hd;dsimp only;rw[d7];go_wp2_with fail;exact pS rfl (by simp)
  intro f w8 hb hA;have d8:f 8=_:=hA 8 (by simp);clear hA
  try dsimp only
  rw[d8];clear d8;have eN:=zh hb;clear hb;go_wp2_with fail;go_meet
  case rel=>exact ⟨rfl,eN⟩
 obtain ⟨rfl,GX⟩:=hcut;generalize wc=w2 at *;have rK:=zh (oO.o.trans (GX.o.mono (ak hz2 oO.o.size)));replace HX:=zh (HX.o.bb GX.o);replace BV:=zh (BV.o.bb GX.o);have By:B<=w2.heap.size:=ak (ak (ak hB hz2) oO.o.size) GX.o.size;clear GX
 cases hfit:xA P.t (dn:Int)
 ·rw[hfit,ai (by decide)] at FF;have p0:=BV.o.cell (i:=0) rfl;have p1:=BV.o.cell (i:=1) rfl;have p2:=BV.o.cell (i:=2) rfl;have p3:=BV.o.cell (i:=3) rfl;go_wp2_with fail;refine (BM.o w2 rK.o).mono ?_;rintro e w3 ⟨rfl,hb⟩;have GY:=zh (rK.o.trans (hb.mono (ak hz2 rK.o.size)));replace BV:=zh (BV.o.bb hb);have JY:B<=w3.heap.size:=ak By hb.size;clear hb p0 p1 p2 p3 BM
  cases hcr:wu P.t
  ·have hpl:=tT p_ hq (by rw[hcr];exact fun h=>absurd h.2 (by decide)) (by rw[FF];decide);rw[FF] at hpl;have HF:=zh hpl;have HM:=zh (BO.o w3 GY.o);have HB:Hid (fD B w w3):=zh (fD.of (GY.o.mono (hz1)) (ak hB hz2));have By:=JY;clear hpl FF Dv lL DF Aw BO hcr;go_upto_region 8 with fail;obtain ⟨jo,jq,gc',L',sL,pd,oT,es',E2,jU,sN,sO⟩:=HM.o;obtain ⟨QJ,QK,sP,GU,GV,_⟩:=zG sO.r;subst sP;have q8:=sN.cell (i:=8) rfl;have eG:=(aj w3.heap.size w3).alloc (ag _) (.cells #[.int .i64 9] 39);have pQ:=zh (sN.bb eG);have lS:=zh (sO.bb eG);have h_:=zh (HB.o.step eG By);have iE:=zh lS.o.r;have rJ:=ak By eG.size;clear eG sN sO HM HB
   go_wp2_with (at_builtin;go_must (refine zP (n:=P.res.length) (m:=1) rfl (.tmp 49) (.tmp 50) 69 rfl kj B rfl iE.o rfl (Rd.jR w3.heap.size w3 rfl 1 [.int .i64 9] 39 1 rfl (by decide)) (fun u hu=>by simp only[bp,bt,bu] at hu;rw[hu];rfl) (by unfold maxLen;omega) (by omega) rJ ?_);intro v3 w3 eB eW hv3;clear hv3;obtain ⟨oa,oc,ev,_,_,_⟩:=zG eB;subst ev;have iA:=pQ.o.fC (fM.row iE.o eW (ag B)) (by decide);have c8:=iA.cell (i:=8) rfl;have f8:=iA.frozen 8);have jP:gO w3 (w3.setCell ⟨b,8,none⟩ (.slice oa (P.res.length+1) oc)) B b 197:=gO.pts jU ⟨_,_,iA⟩ [(8,.slice oa (P.res.length+1) oc)];have nD:=zh ((lS.o.res 9 eW eB).1.ik jP)
   have oQ:Hid (BU (w3.setCell ⟨b,8,none⟩ (.slice oa (P.res.length+1) oc)) b P.t.id P.t.lim P.t.ro jo jq gc' P.eH tk sL oT (.slice oa (P.res.length+1) oc) P.bytes):=zh ((by have h:=iA.set 8 (.slice oa (P.res.length+1) oc);rw[N0] at h;exact h));have jL:=zh ((h_.o.own iE.o rJ eW (by decide)).pts jU [(8,.slice oa (P.res.length+1) oc)] ⟨_,_,iA⟩ (by decide));clear eB eW iA jP c8 f8 q8;go_wp2_with fail;go_ret;exact ⟨by rw[HF.o];try rfl,by rw[HF.o];exact ⟨jo,jq,gc',L',sL,pd,oT,es',_,jU,oQ.o,nD.o⟩,jL.o⟩
  have hpl:=zDn p_ hq FF hcr;obtain ⟨rz,QL⟩:∃ rz:Bool,decide (P.res.length=0)=rz:=⟨_,rfl⟩
  rw[QL] at hpl;have HF:=zh hpl;have KZ:=zh (DF.o w3 GY.o rz);have TJ:=zh (Aw.o w3 (fD.of (GY.o.mono (hz1)) (ak hB hz2)) GY.o rz);have p1:=BV.o.cell (i:=5) rfl;have pf:=BV.o.frozen 4;have p4:=BV.o.cell (i:=4) rfl;have GZ:(tk==0)=rz:=by
   rw[<- QL,C0.o]
   by_cases e:P.res.length=0<;>simp[e]
  clear QL;clear hpl FF Dv lL DF Aw BO hcr;go_wp2_with fail;go_ret;exact ⟨by rw[HF.o];rfl,by rw[HF.o];exact KZ.o,TJ.o⟩
 rw[hfit,ah rfl] at FF;have x2:=HX.o.cell (i:=2) rfl;have x3:=HX.o.cell (i:=3) rfl;have x4:=HX.o.cell (i:=4) rfl;go_wp2_with fail;refine (lL.o w2 rK.o).mono ?_;rintro e w3 ⟨rfl,hm,hb⟩;have HB:Hid (fD B w w3):=zh ((fD.of (rK.o.mono (hz1)) (ak hB hz2)).trans hb);have JY:B<=w3.heap.size:=ak By hb.size;have By:=JY;have TK:=zDj Ga.o dn;clear x2 x3 x4 Dv BM lL DF Aw BO hb
 cases hro:ub P dn
 ·have hpl:=zCD p_ hq FF (by rw[lu];exact TK.1 hro);have HF:=zh hpl;rw[hro,ai (by decide)] at hm;have HM:=zh hm;clear hpl hm TK;go_wp2_with fail;go_ret;exact ⟨by rw[HF.o];rfl,by rw[HF.o];exact HM.o,HB.o⟩
 have hpl:=X_ p_ hq FF (by rw[lu];exact fun h=>by rw[TK.2 h] at hro;cases hro);have HF:=zh hpl;rw[hro,ah rfl] at hm;have HM:=zh hm;have Yo:(xR P (uA q)).res.length<=16:=by rw[Tb];omega
 clear hpl hm TK;generalize xR P (uA q)=st at *;go_upto_region 12 with fail;obtain ⟨jo,jq,gc',L',sL,pd,oT,es',E2,jU,sN,sO⟩:=HM.o;obtain ⟨QJ,QK,sP,GU,GV,_⟩:=zG sO.r;subst sP;have q8:=sN.cell (i:=8) rfl;have eG:=(aj w3.heap.size w3).alloc (ag _) (.cells #[.int .i64 0] 39);have pQ:=zh (sN.bb eG);have lS:=zh (sO.bb eG);have h_:=zh (HB.o.step eG By);have iE:=zh lS.o.r;have rJ:=ak By eG.size;clear eG sN sO HM HB
 go_wp2_with (at_builtin;go_must (refine zP (n:=st.res.length) (m:=1) rfl (.tmp 70) (.tmp 71) 69 rfl kj B rfl iE.o rfl (Rd.jR w3.heap.size w3 rfl 1 [.int .i64 0] 39 1 rfl (by decide)) (fun u hu=>by simp only[bp,bt,bu] at hu;rw[hu];rfl) (by unfold maxLen;omega) (by omega) rJ ?_);intro v3 w3 eB eW hv3;clear hv3;obtain ⟨oa,oc,ev,_,_,_⟩:=zG eB;subst ev;have iA:=pQ.o.fC (fM.row iE.o eW (ag B)) (by decide);have c8:=iA.cell (i:=8) rfl;have f8:=iA.frozen 8);have jP:gO w3 (w3.setCell ⟨b,8,none⟩ (.slice oa (st.res.length+1) oc)) B b 197:=gO.pts jU ⟨_,_,iA⟩ [(8,.slice oa (st.res.length+1) oc)];have nD:=zh ((lS.o.res 0 eW eB).1.ik jP)
 have oQ:Hid (BU (w3.setCell ⟨b,8,none⟩ (.slice oa (st.res.length+1) oc)) b st.t.id st.t.lim st.t.ro jo jq gc' st.eH tk sL oT (.slice oa (st.res.length+1) oc) st.bytes):=zh ((by have h:=iA.set 8 (.slice oa (st.res.length+1) oc);rw[N0] at h;exact h));have jL:=zh ((h_.o.own iE.o rJ eW (by decide)).pts jU [(8,.slice oa (st.res.length+1) oc)] ⟨_,_,iA⟩ (by decide));clear eB eW iA jP c8 f8 q8;go_wp2_with fail;go_ret;exact ⟨by rw[HF.o];try rfl,by rw[HF.o];exact ⟨jo,jq,gc',L',sL,pd,oT,es',_,jU,oQ.o,nD.o⟩,jL.o⟩
def QM:wQ prog 76 103 2 32:=by
 obtain ⟨i,hi,hz,hs,hb⟩:=cq (P:=prog) (e:=103) (z:=.agg #[.int .i64 0,.slice none 0 0]) (size:=2) (bytes:=32) (by kernel_rfl);exact ⟨underlying76,by decide,i,_,hi,hz,hs,hb,rfl⟩
def zNC (ks:List KP) (h:∀ p∈ks,∃ a n c,p.2.1=.slice a n c):∀ u∈ks.flatMap iy,u.oneCell'=true:=fun u hu=>by
 obtain ⟨x,hx,hu⟩:=List.mem_flatMap.1 hu;simp only[iy,bp,bt,bu] at hu;rcases hu with rfl|rfl
 ·rfl
 obtain ⟨_,_,_,e⟩:=h x hx;rw[e];rfl
def iO.lN {W:World} {B:Nat} {v:Value} {ks:List KP} (h:iO W B v ks):∀ p∈ks,∃ a n c,p.2.1=.slice a n c:=fun p hp=>by
 obtain ⟨a,c,e,_⟩:=zG (h.keys p hp);exact ⟨a,_,c,e⟩
structure Yp (P P1:fP) (r n:Nat) (num:Int) (i:Nat) (Q:fP):Prop where
 lo:i<=r->Q=P
 hi:r<i->Q=P1
def zHE {w:World} {B b:Nat} {tk:Int} {P:fP} (hM:mX w B b tk P) (hB:B<=w.heap.size) (hl:fF 800 P.t.ep) (hv:fg P.t) (M:Nat) (BO:M<=100000) (hsk:pR M P.eE) (num key:Int) (r:Nat) (hr:r+1<P.t.ep.length) (gN:num=(fh P.t.ep r).num) :
  Calls prog 157 #[.pointer (some ⟨b,0,none⟩),.int .i64 num,.int .u64 key] w fun e w'=>e=.returned (.tuple #[])/\mX w' B b tk (yU key P num)/\fD B w w':=by
 have oA:P.t.ep.length<=8:=hv.len.2;have EL:=uv hv hr key;rw[<- gN] at EL;have hKe:yU key P num={P with t:=(yK P.t num [key]).1,eE:=Ed P.eE num key}:=rfl;obtain ⟨P1,jG⟩:∃ P1,({P with t:=(yK P.t num [key]).1}:fP)=P1:=⟨_,rfl⟩
 have My:P1.t=wg P.t r (uU (fh P.t.ep r) key):=by rw[<- jG];show (yK P.t num [key]).1=_;rw[EL]
 have DG:=(Kp.refl hv).set (fit_drop hv hr key);rw[<- My] at DG;obtain ⟨n,hn⟩:∃ n,P.t.ep.length=n:=⟨_,rfl⟩
 have EB:P1.t.ep.length=n:=by rw[DG.len,hn]
 have hnm:=DG.num r (by omega);rw[<- gN] at hnm;have HN0:Hid (∀ i,i<n->i≠r->(fh P.t.ep i).num≠num):=zh (fun i hi hne=>by rw[gN];exact hv.Bi (by omega) (by omega) hne);have Ch:Hid (∀ i,i<n->i≠r->(fh P1.t.ep i).num≠num):=zh (fun i hi hne=>by rw[<- hnm];exact DG.v.Bi (by omega) (by omega) hne);have hm:(fh P.t.ep r).mode≠1:=fun e=>by have:=(hv.g r (by omega)).2.2.1.1 e;omega
 have ru:=zh (zDO (h:=hv.vg (by omega:r<P.t.ep.length)) hm (key:=key));have HCg:=zh (show yS P.t (uU (fh P.t.ep r) key)=(P1.t,0) by rw[My];exact Ta hv (fit_drop hv hr key));have G0:=zh hl;have Gr:=zh gN;have IY:Hid (P1={P with t:=P1.t}):=zh (by rw[<- jG]);have u_:Hid (yU key P num={P1 with eE:=Ed P.eE num key}):=zh (by rw[hKe,<- jG]);have oD:=zh hsk;have lz:=zh hM;generalize yU key P num=PZ at *;clear EL hKe jG My DG hnm hm hl hv hsk hM gN
 go_enter func157,ntmps157
 have eP:=zh (fD.refl B w);have CX:Hid (Yp P P1 r n num 0 P):=zh (⟨fun _=>rfl,fun h=>absurd h (by omega)⟩);have Uy:r+1<n:=by omega
 go_wp2_with fail
 go_loopw [6] (fun iv W=>∃ (i:Nat) (Q:fP),iv=.int .i64 (i:Int)/\i<=n/\Hid (Yp P P1 r n num i Q)/\Hid (mX W B b tk Q)/\Hid (fD B w W)) (fun iv _=>n-(intOf iv).toNat)
 case atStart=>exact ⟨0,P,rfl,aq _,CX,lz,eP⟩
 clear CX lz eP;obtain ⟨i,Q,rfl,hi,HI,TL,HB⟩:=hrel;have Cc:B<=wr.heap.size:=ak hB HB.o.size;obtain ⟨ga,gn,gc,L,kv,ks,nv,es,rv,hlo,hP,hR⟩:=TL.o;have hQn:Q.t.ep.length=n:=by
  by_cases h:i<=r
  ·rw[HI.o.lo h];exact hn
  rw[HI.o.hi (by omega)];exact EB
 have fT:L.length=gn:=by
  obtain ⟨_,_,e,_⟩:=hR.g.rd.shape;injection e with _ e _;exact e.symm
 have hgn:gn=n:=by
  have h:=aM List.length hR.gg;rw[zk] at h;omega
 subst hgn;have p3:=hP.cell (i:=3) rfl
 by_cases hlt:i<gn
 ·have i1:(i:Int)<(gn:Int):=by omega
  obtain ⟨gb,go,e0,hat⟩:=hR.g.rd.at hlt;subst e0;have TM:fh Q.t.ep i=(pat L i).1:=by rw[<- hR.gg];exact yj
  by_cases hir:i=r
  ·subst hir;obtain rfl:Q=P:=HI.o.lo (ag _);have QN:=ru.o;have TN:=HCg.o;have TP:=Gr.o;rw[TM] at QN TN TP;have hmm:=hR.g.m _ (yP (l:=L) (i:=i) (by omega));have hmx:=yP (l:=L) (i:=i) (by omega);have TQ:∀ j,j<8->((pat L i).1.m.st j).length<=800:=fun j hj=>G0.o _ (by rw[<- hR.gg];exact cB hmx) j hj
   clear hmx;generalize pat L i=p at *;obtain ⟨⟨pn,pr,pm,pz,⟨pf,pL,pG⟩⟩,ps⟩:=p;dsimp only at QN TN TP hmm TQ hat;have iz:∀ j,j<8->((uU ⟨pn,pr,pm,pz,⟨pf,pL,pG⟩⟩ key).m.st j).length<=10000:=by
    have h1:=ke ⟨pn,pr,pm,pz,⟨pf,pL,pG⟩⟩ [key] (K:=800) TQ;rw[QN] at h1;exact fun j hj=>ak (h1 j hj) (by decide)
   have Ad:=zh (fun W v (hb:Below wr.heap.size wr W) (hu:mM W v [key])=>Xk ⟨pn,pr,pm,pz,⟨pf,pL,pG⟩⟩ ps v [key] W (hmm.bb hb).rd (fun j hj=>ak (TQ j hj) (by decide)) hu (by simp));rw[QN] at Ad;have IU:=zh hmm;have BR:=zh iz;generalize uU ⟨pn,pr,pm,pz,⟨pf,pL,pG⟩⟩ key=D at *;obtain ⟨dn,dr,dm,dz,⟨df,dL,dG⟩⟩:=D;dsimp only at Ad BR;have nR:=zh (fun W sA (hb:Below wr.heap.size wr W) (hm:fN W sA df)=>zF1 Q.t (some ⟨gb,go,none⟩) gn gc L W (hR.g.rd.bb hb) hR.gg (G0.o.mono (by decide)) ⟨dn,dr,dm,dz,⟨df,dL,dG⟩⟩ sA hm BR.o);rw[TN] at nR;dsimp only at nR;have e1:(pn==num)=true:=by simp[TP]
   have HP:=zh hP;have HR:=zh hR;have hLd:∀ q∈L,jm wr B q.2 q.1.m.st:=hR.g.m;have PD:=zh hLd;clear QN TN TP hmm TQ iz hP hR hLd TM TL HI;obtain ⟨q0,q1,q2,q3,q4,q5,q6,q7,q8,q9,w_,y_,z_,Aa⟩:=hat.q;dsimp only at q0 q1 q2 q3 q4 q5 q6 q7 q8 q9 w_ y_ z_ Aa;clear hat;go_wp2_with fail;have eG:=(aj wr.heap.size wr).alloc (ag _) (.cells #[.int .u64 key] 24);have Ar:mM (wr.alloc (.cells #[.int .u64 key] 24)) (.slice (some ⟨wr.heap.size,0,none⟩) 1 1) [key]:=Rd.new wr 1 [.int .u64 key] 24 1 rfl (by decide);refine (Ad.o _ _ eG Ar).mono ?_;rintro e w4 ⟨⟨sA,rfl,ho⟩,hb⟩;dsimp only;replace hb:=zA eG hb;have HA:Hid (jm w4 B sA df):=zh (jm.oo ho (IU.o.bb hb));clear ho eG Ar Ad IU q0 q1 q2 q3 q4 q5 q6 q7 q8 q9 w_ y_ z_ Aa p3;go_upto_region 5 with fail;change Code.wp _ _ _ _ (w4.alloc (.cells (zU dn dr dm dz sA dL dG) 113))
   obtain ⟨v5,hV,eG,Qi⟩:=dY w4 (zU dn dr dm dz sA dL dG) 113;rw[hV];clear hV;have Mg:Hid (jm _ B sA df):=zh (HA.o.bb eG);replace hb:=zA hb eG;have TJ:=zh hb;replace HP:=zh (HP.o.bb hb);replace HR:=zh (HR.o.bb hb);replace HB:=zh (HB.o.step hb Cc);clear eG hb HA;generalize w4.heap.size=b8 at *;have Fz:B<=v5.heap.size:=ak hB HB.o.size;refine yQ [eT (.pointer (some ⟨b,0,none⟩)),eT (.pointer (some ⟨b,0,none⟩)),eT (.pointer (some ⟨b,0,none⟩)),eT (.pointer (some ⟨b,0,none⟩)),eT (zQ Q.t.id Q.t.lim Q.t.ro (some ⟨gb,go,none⟩) gn gc),eT (ze dn dr dm dz sA dL dG),TF B (P1.t,0),TF B (P1.t,0),zMs B P1.t,eT (.int .i64 0),eT (.pointer (some ⟨b,0,none⟩)),eT (.pointer (some ⟨b,0,none⟩))] [] 150 9 (by kernel_rfl) (by kernel_rfl) rfl rfl (by decide) (by rfl) (by kernel_rfl) (fun f=>by simp[fU,zW,Act.put];exact rfl) ?_ ?_ ?_
   ·refine ⟨?_,?_,?_,?_,?_,?_,?_,?_,?_,?_,?_,?_,trivial⟩
    ·intro f w1 hb hd;clear hd;dsimp only;go_wp2_with fail;exact pS rfl (by simp)
    ·intro f w1 hb hd;clear hd;dsimp only;go_wp2_with fail;exact pS rfl (by simp)
    ·intro f w1 hb hd;have d1:f 1=_:=hd 1 (by kernel_rfl);clear hd;dsimp only;rw[d1];go_wp2_with fail;exact pS rfl (by simp)
    ·intro f w1 hb hd;have d2:f 2=_:=hd 2 (by kernel_rfl);clear hd;dsimp only;rw[d2];go_wp2_with fail;exact pS rfl (by simp)
    ·intro f w1 hb hd;have d3:f 3=_:=hd 3 (by kernel_rfl);clear hd;dsimp only;rw[d3];have hx:=HP.o.bb hb;have q0:=hx.cell (i:=0) rfl;have q1:=hx.cell (i:=1) rfl;have q2:=hx.cell (i:=2) rfl;have q3:=hx.cell (i:=3) rfl;clear hx;go_wp2_with fail;exact pS rfl (by simp)
    ·intro f w1 hb hd;clear hd;dsimp only;have hx:=(Qi.o.bb hb).gen;obtain ⟨q0,q1,q2,q3,q4,q5,q6,q7,q8,q9,w_,y_,z_,Aa⟩:=hx.q;clear hx;go_wp2_with fail;exact pS rfl (by simp)
    ·intro f w1 hb hd;have d4:f 4=_:=hd 4 (by kernel_rfl);have d5:f 5=_:=hd 5 (by kernel_rfl);clear hd;dsimp only;rw[d4];rw[d5];go_wp2_with fail;refine (nR.o w1 sA (zA TJ.o hb) (Mg.o.bb hb).rd).mono ?_;rintro e w9 ⟨⟨qa,qn,qc,qL,rfl,hown,QG,hgn⟩,gy⟩;have ru:Hid (gU w9 B (.slice qa qn qc) qL):=zh (gU.Ma hown QG (fun q hq=>((PD.o q hq).bb (zA TJ.o hb)).bb gy) ((Mg.o.bb hb).bb gy));have iZ:=zh hgn;clear hown hgn QG;go_wp2_with fail;exact pRg gy ⟨qa,qn,qc,qL,rfl,ru.o,iZ.o⟩ (by simp)
    ·intro f w1 hb hd;obtain ⟨a6,n6,c6,L6,d6,r6,g6⟩:=hd 6 (by kernel_rfl);clear hd;dsimp only;rw[d6];have ru:=zh r6;have iZ:=zh g6;clear r6 g6;go_wp2_with fail;exact pRg (aj _ _) ⟨a6,n6,c6,L6,rfl,ru.o,iZ.o⟩ (by simp)
    ·intro f w1 hb hd;obtain ⟨a7,n7,c7,L7,d7,r7,g7⟩:=hd 7 (by kernel_rfl);clear hd;dsimp only;rw[d7];have ru:=zh r7;have iZ:=zh g7;clear r7 g7;go_wp2_with fail;exact pRg (aj _ _) ⟨a7,n7,c7,L7,rfl,ru.o,iZ.o⟩ (by simp)
    ·intro f w1 hb hd;obtain ⟨a7,n7,c7,L7,d7,r7,g7⟩:=hd 7 (by kernel_rfl);clear hd;dsimp only;rw[d7];clear r7 g7;go_wp2_with fail;exact pS rfl (by simp)
    ·intro f w1 hb hd;have d0:f 0=_:=hd 0 (by kernel_rfl);clear hd;dsimp only;rw[d0];go_wp2_with fail;exact pS rfl (by simp)
    intro f w1 hb hd;have d10:f 10=_:=hd 10 (by kernel_rfl);clear hd;dsimp only;rw[d10];go_wp2_with fail;exact pS rfl (by simp)
   ·intro f w8 hb hd iX;clear iX;obtain ⟨a8,n8,c8,L8,d8,r8,g8⟩:=hd 8 (by simp);have d11:f 11=_:=hd 11 (show 11<12 by decide)
    try dsimp only
    rw[d8,d11];clear hd d8 d11;have gR:=HP.o.bb hb;have HO:=gO.pts (T:=197) hlo ⟨_,_,gR⟩ (zI P1.t.id P1.t.lim P1.t.ro a8 n8 c8);have jB:BU (pts w8 b (zI P1.t.id P1.t.lim P1.t.ro a8 n8 c8)) b P1.t.id P1.t.lim P1.t.ro a8 n8 c8 Q.eH tk kv nv rv Q.bytes:=(by have h:=eu.sets (zI P1.t.id P1.t.lim P1.t.ro a8 n8 c8) gR;rw[qW] at h;exact h)
    have iw:=((HR.o.bb hb).slot P1.t r8 g8).ik HO;have JM:Hid (mX (pts w8 b (zI P1.t.id P1.t.lim P1.t.ro a8 n8 c8)) B b tk P1):=zh (by rw[IY.o];exact ⟨a8,n8,c8,L8,kv,ks,nv,es,rv,hlo,jB,iw⟩);have fH:=zh ((HB.o.step hb Fz).pts hlo (zI P1.t.id P1.t.lim P1.t.ro a8 n8 c8) ⟨_,_,gR⟩ (by decide));have q0:=gR.cell (i:=0) rfl;have q1:=gR.cell (i:=1) rfl;have q2:=gR.cell (i:=2) rfl;have q3:=gR.cell (i:=3) rfl;have qf:=gR.frozen;clear r8 g8 hb gR HO jB iw;change wpList _ _ _ (_::[]) _ _;go_wp2_with fail;exact ⟨⟨i+1,P1,by go_num,by omega,zh ⟨fun h=>absurd h (by omega),fun _=>rfl⟩,JM,fH⟩,by simp[intOf];omega⟩
   intro f w8 hb hd iX;clear iX;obtain ⟨a8,n8,c8,L8,d8,r8,g8⟩:=hd 8 (by simp) (by decide);have d11:f 11=_:=hd 11 (show 11<12 by decide) (by decide);obtain ⟨a7,n7,c7,L7,d7,r7,g7⟩:=hd 7 (by simp) (by decide);clear r7 g7
   try dsimp only
   rw[d7,d8,d11];clear hd d7 d8 d11;have gR:=HP.o.bb hb;have HO:=gO.pts (T:=197) hlo ⟨_,_,gR⟩ (zI P1.t.id P1.t.lim P1.t.ro a8 n8 c8);have jB:BU (pts w8 b (zI P1.t.id P1.t.lim P1.t.ro a8 n8 c8)) b P1.t.id P1.t.lim P1.t.ro a8 n8 c8 Q.eH tk kv nv rv Q.bytes:=(by have h:=eu.sets (zI P1.t.id P1.t.lim P1.t.ro a8 n8 c8) gR;rw[qW] at h;exact h)
   have iw:=((HR.o.bb hb).slot P1.t r8 g8).ik HO;have JM:Hid (mX (pts w8 b (zI P1.t.id P1.t.lim P1.t.ro a8 n8 c8)) B b tk P1):=zh (by rw[IY.o];exact ⟨a8,n8,c8,L8,kv,ks,nv,es,rv,hlo,jB,iw⟩);have fH:=zh ((HB.o.step hb Fz).pts hlo (zI P1.t.id P1.t.lim P1.t.ro a8 n8 c8) ⟨_,_,gR⟩ (by decide));have q0:=gR.cell (i:=0) rfl;have q1:=gR.cell (i:=1) rfl;have q2:=gR.cell (i:=2) rfl;have q3:=gR.cell (i:=3) rfl;have qf:=gR.frozen;clear r8 g8 hb gR HO jB iw;change wpList _ _ _ (_::_::[]) _ _;go_wp2_with fail;exact ⟨⟨i+1,P1,by go_num,by omega,zh ⟨fun h=>absurd h (by omega),fun _=>rfl⟩,JM,fH⟩,by simp[intOf];omega⟩
  have hne:(fh Q.t.ep i).num≠num:=by
   by_cases h:i<=r
   ·rw[HI.o.lo h];exact HN0.o i hlt hir
   rw[HI.o.hi (by omega)];exact Ch.o i hlt hir
  rw[TM] at hne;have q0:=hat.n0;clear hat;generalize pat L i=p at *;have e1:(p.1.num==num)=false:=by simp[hne]
  have gl:Hid (Yp P P1 r gn num (i+1) Q):=zh (⟨fun h=>HI.o.lo (by omega),fun h=>HI.o.hi (by omega)⟩);clear hP hR TM;go_wp2_with fail;exact ⟨⟨i+1,Q,by go_num,by omega,gl,TL,HB⟩,by simp[intOf];omega⟩
 have i1:¬ (i:Int)<(gn:Int):=by omega
 obtain rfl:Q=P1:=HI.o.hi (by omega);have hkk:Q.eE=P.eE:=by rw[IY.o]
 obtain ⟨ka,kc,EV,nw,hk2,NP⟩:=zG hR.k.row;subst EV;have sM:gV ks=P.eE:=hR.kk.trans hkk;have amT:ks.length<=8:=by have h:=(show pR M P.eE from oD.o).le8;rw[<- sM,xx] at h;exact h
 have rQ:ia P.eE num<=ks.length:=by have h:=zEJ P.eE num;rw[<- sM,xx] at h;rw[<- sM];exact h
 have JZ:∀ j,(yY P.eE j).1=(iG ks j).1:=fun j=>by rw[<- sM,Qj]
 have QO:=zh (fun j (h:j<ia P.eE num)=>show (iG ks j).1<num by rw[<- JZ];exact zLi P.eE num h);have QP:Hid (ia P.eE num<ks.length->num<=(iG ks (ia P.eE num)).1):=zh (fun h=>by rw[<- JZ];exact zJl P.eE num (by rw[show P.eE.length=ks.length by rw[<- sM,xx]];exact h));have JT:(decide (ia P.eE num<ks.length)&&(iG ks (ia P.eE num)).1==num)=decide (ia P.eE num<P.eE.length/\(yY P.eE (ia P.eE num)).1=num):=by
  rw[JZ,show P.eE.length=ks.length by rw[<- sM,xx]]
  by_cases e1:ia P.eE num<ks.length
  ·by_cases e2:(iG ks (ia P.eE num)).1=num
   ·simp[e1,e2]
   simp[e1,e2]
  simp[e1]
 have EW:=zh (zLa (num:=num) (key:=key) sM rfl);have EY:Hid (¬ (ia P.eE num<P.eE.length/\(yY P.eE (ia P.eE num)).1=num)->Ed P.eE num key=(gV ks).take (ia P.eE num)++(num,[key])::(gV ks).drop (ia P.eE num)):=zh (fun h=>by rw[sM];exact zAw h);have NW:Hid (∀ x∈gV ks,x.2.length<=200000):=zh (fun x hx=>by have:=oD.o.len x (by rw[<- sM];exact hx);omega);have OW:=zh JT;clear JT JZ hkk sM;generalize ia P.eE num=I at *;have HP:=zh hP;have HR:=zh hR;have HB:=HB;clear hP hR TL HI ru HCg HN0 Ch G0;obtain ⟨y0,hy0⟩:∃ y,y=wr:=⟨_,rfl⟩
 subst hy0;have p6:=HP.o.cell (i:=6) rfl
 go_upto_block 2 with fail
 clear p3
 go_cut [9] (fun v wx=>v=.int .i64 (I:Int)/\wx=y0)
 case first =>
  as_aux_lemma =>
  go_wp2_with fail
  go_loopw [9] (fun kv W=>∃ k:Nat,kv=.int .i64 (k:Int)/\k<=I/\W=y0) (fun kv _=>I-(intOf kv).toNat)
  case atStart=>exact ⟨0,rfl,aq _,rfl⟩
  obtain ⟨k,rfl,hk,hW⟩:=hrel;subst hW
  by_cases h1:k<ks.length
  ·have i1:(k:Int)<(ks.length:Int):=by omega
   obtain ⟨bk,ok,e0,hc0,_⟩:=od.at (⟨fun x _=>xV x,zr HR.o.k.row⟩:od wr (.slice ka ks.length kc) ks) h1;subst e0
   by_cases h2:(iG ks k).1<num
   ·have hkI:k<I:=by
     rcases bD k I with h|h
     ·exact h
     obtain rfl:k=I:=by omega
     have:=QP.o h1;omega
    go_wp2_with fail;exact ⟨⟨k+1,by go_num,by omega,by first|rfl|trivial⟩,by simp[intOf];omega⟩
   have hkI:k=I:=by
    rcases bD k I with h|h
    ·exact absurd (QO.o k h) h2
    omega
   subst hkI;go_wp2_with fail;go_meet
   case rel=>first|exact ⟨rfl,rfl⟩|exact ⟨rfl,trivial⟩
  have i1:¬ (k:Int)<(ks.length:Int):=by omega
  obtain rfl:k=I:=by omega
  go_wp2_with fail;go_meet
  case rel=>first|exact ⟨rfl,rfl⟩|exact ⟨rfl,trivial⟩
 obtain ⟨rfl,hwc⟩:=hcut;generalize wc=Yj at *;replace hwc:=hwc.symm;subst hwc;obtain ⟨fo,hfo⟩:∃ fo,decide (I<P.eE.length/\(yY P.eE I).1=num)=fo:=⟨_,rfl⟩
 have JT:=OW.o;rw[hfo] at JT;have KY:=zh hfo;have Yq:=zh JT;clear hfo JT OW QO QP;go_upto_region 9 with fail
 go_cut [101] (fun v wx=>v=.bool fo/\wx=y0)
 case first =>
  by_cases h1:I<ks.length
  ·have i1:(I:Int)<(ks.length:Int):=by omega
   obtain ⟨bk,ok,e0,hc0,_⟩:=od.at (⟨fun x _=>xV x,zr HR.o.k.row⟩:od y0 (.slice ka ks.length kc) ks) h1;subst e0;have Yr:fo=((iG ks I).1==num):=by rw[<- Yq.o,aD h1,bU]
   go_wp2_with fail;go_meet
   case rel=>exact ⟨by rw[Yr],rfl⟩
  have i1:¬ (I:Int)<(ks.length:Int):=by omega
  have Yr:fo=false:=by rw[<- Yq.o,aC h1,dC]
  go_wp2_with fail;go_meet
  case rel=>exact ⟨by rw[Yr],rfl⟩
 obtain ⟨rfl,hwc⟩:=hcut;generalize wc=Yj at *;replace hwc:=hwc.symm;subst hwc;clear Yq
 cases fo
 rotate_left
 ·have hh:=aZ KY.o;obtain ⟨hi2,nJ,g3⟩:=EW.o hh;have ny:=zh g3;have hkl:(iG ks I).2.2.length<=200000:=NW.o _ (by have:=uK (l:=gV ks) (i:=I) (by rw[xx];exact hi2);rw[Qj] at this;exact this);clear g3 hh EW EY NW KY;obtain ⟨g,e1,_,hgB,rV,hcK⟩:=zKW HR.o.k hi2;subst e1;have mW:=HR.o.k.keys _ (uf hi2);obtain ⟨wa,wc',hwv,_,_,_⟩:=zG mW;have eG:=zV ((aj y0.heap.size y0).alloc (ag _) (.cells #[.int .u64 key] 24));have pQ:=zh (HP.o.bb eG);have lS:=zh (HR.o.bb eG);have h_:=zh (HB.o.step eG Cc);have JU:=lS.o.k.keys _ (uf hi2);have GM:=eG.size;have GN:=zh (fun W1 v2 ho hg hat=>lS.o.put (W1:=W1) hi2 nJ (v2:=v2) (l2:=(iG ks I).2.2++[key]) ho hg hat);have Mr:=zh (fun W1 (hO:fM _ W1 B 24)=>zLX (yV lS.o.k.row hO (by decide)) hi2);rw[hwv] at JU GN Mr hcK;clear mW eG;generalize hKl:(iG ks I).2.2=kl at *
  clear hKl hwv;have j_:=zh JU;have Cw:=zh (fun W (hg:(World.drew (y0.alloc (.cells #[.int .u64 key] 24))).grownBy W (Value.slice wa kl.length wc').ownBlock)=>fM.row JU hg (ag B));clear JU;have i1:(I:Int)<(ks.length:Int):=by omega
  have nz:=zh (fun W9 jD jE (eM:World.ownsRow W9 B 24 1 (.slice jD (kl.length+1) jE) (kl.length+1) (kl.map Fc++[.int .u64 key])) fu rH=>show mX (W9.setCell ⟨g,I*2+1,none⟩ (.slice jD (kl.length+1) jE)) B b tk PZ/\fD B w (W9.setCell ⟨g,I*2+1,none⟩ (.slice jD (kl.length+1) jE)) by
   obtain ⟨r1,r2,r3⟩:=GN.o W9 (.slice jD (kl.length+1) jE) (by rw[ax,aU];exact eM) fu rH
   have r4:fM W9 (W9.setCell ⟨g,I*2+1,none⟩ (.slice jD (kl.length+1) jE)) B 103:=.inr ⟨g,r3⟩
   refine ⟨?_,(h_.o.own j_.o (ak Cc GM) fu (by decide)).fC r4 (by decide) (zC (B:=B) (b:=g) hgB [(I*2+1,.slice jD (kl.length+1) jE)] (zK h_.o.b j_.o (ak Cc GM) fu))⟩
   rw[u_.o,<- ny.o]
   exact ⟨ga,gn,gc,L,_,_,nv,es,rv,hlo,(pQ.o.fC r2 (by decide)).fC r4 (by decide),r1⟩)
  have q6w:=pQ.o.cell (i:=6) rfl;obtain ⟨ckw,fkw⟩:=Mr.o _ (.inl (aj _ _));go_upto_region 10 with fail
  go_region_law ((refine kZ (n:=kl.length) (by rfl) (.tmp 116) (.tmp 118) 87 (by rfl) zKe B (by rfl) j_.o (ad:=⟨y0.heap.size,0,none⟩) (m:=1) (c:=1) (news:=[.int .u64 key]) (by rfl) (by rfl) (zEu y0 key _ rfl) (fun u hu=>by simp only[bp,bt,bu] at hu;rw[hu];rfl) (by unfold maxLen;omega) (by omega) (by simp;omega) ?_;intro v9 w9 eM fu rH;obtain ⟨jD,jE,hv2,_,_,_⟩:=zG eM;subst hv2;have ry:=Cw.o _ fu;have iA:=pQ.o.fC ry (by decide);have c6:=iA.cell (i:=6) rfl;obtain ⟨c9,f9⟩:=Mr.o _ ry;clear iA ry))
  all_goals
   obtain ⟨z1,z4⟩:=nz.o _ _ _ eM fu rH;have Z1:=zh z1;have Z4:=zh z4;clear z1 z4 eM fu rH c6 c9 f9 q6w ckw fkw p6 hcK nz;go_wp2_with fail
   (try simp only[Exit.inBlock,Exit.then])
   refine au (results_none rfl _ _ _) rfl ?_;exact ⟨rfl,Z1.o,Z4.o⟩
 have hh:=cN KY.o;have ny:=zh (EY.o hh);clear hh EW EY NW KY;obtain ⟨dk,cdk,hfr,iH,_⟩:=vO (P:=prog) QM (zr HR.o.k.row) I rQ;have Et:=xH (P:=prog) QM (a:=ka) (n:=ks.length) (cap:=kc) NP I (by omega);rw[(zAB rQ).2] at iH;have CZ:=zh iH;have C0:Hid (∀ (W:World),W.ownsRow B 103 2 (.slice ka ks.length kc) ks.length (ks.flatMap iy)->W.ownsRow B 103 2 (.slice ka I kc) I ((ks.take I).flatMap iy)):=zh (fun W h=>by have h1:=vY h I rQ;rwa [(zAB rQ).1] at h1);have jO:=zh (zNC ks HR.o.k.lN);have HSh:=zh HR.o.k.lN;clear iH;obtain ⟨w2,hw2⟩:∃ w2,y0.alloc (.cells #[] 103)=w2:=⟨_,rfl⟩
 have D_:=cT (e:=103) (size:=2) y0 #[] 0 (ag y0.heap.size) (by decide) rfl;have eG:Below y0.heap.size y0 w2:=hw2▸(aj y0.heap.size y0).alloc (ag _) (.cells #[] 103);rw[hw2] at D_;have p6a:=(HP.o.bb eG).cell (i:=6) rfl;have QQ:=zh (CZ.o.bb eG);go_upto_region 12 with (at_builtin;go_must (refine zP rfl (.tmp 122) (.tmp 129) 76 rfl QM y0.heap.size rfl D_ rfl QQ.o (fun u hu=>jO.o u (by obtain ⟨x,hx,hu⟩:=List.mem_flatMap.1 hu;exact List.mem_flatMap.2 ⟨x,dA hx,hu⟩)) (by unfold maxLen;omega) (by omega) eG.size ?_;intro v3 w3 eB eW hv3;clear hv3;rw[aN,bV] at eB;obtain ⟨ra,rc,rfl,_⟩:=zG eB;have hb3:=zK eG D_ eG.size eW));have Dy:=hb3.size;have QR:∀ p∈ks,p.2.1.ownBlock≠some w3.heap.size:=fun p hp e=>by
  have:=((HR.o.k.keys p hp).lt _ e).2;omega
 have Yt:∀ x,ra=some x->some x.block≠(Value.slice ka I kc).ownBlock:=fun x hx e=>by
  subst hx;have h1:=(eB.lt x.block rfl).1;have h2:(Value.slice ka ks.length kc).ownBlock=some x.block:=by
   cases ka with
   |none=>cases e
   |some y=>exact e.symm
  have h3:=(HR.o.k.row.lt _ h2).2;omega
 have mH:=zh eB;have Fj:B<=w3.heap.size:=ak Cc Dy;obtain ⟨w4,hw4⟩:∃ w4,w3.alloc (.cells #[.int .u64 key] 24)=w4:=⟨_,rfl⟩
 have hk4:=World.ownsRow_lit (e:=24) (size:=1) w3 #[.int .u64 key] 1 Fj (by decide) rfl;have hb4:Below w3.heap.size w3 w4:=hw4▸(aj w3.heap.size w3).alloc (ag _) (.cells #[.int .u64 key] 24);rw[hw4] at hk4;obtain ⟨w5,hw5⟩:∃ w5,w4.alloc (.cells #[.int .i64 num,.slice (some ⟨w3.heap.size,0,none⟩) 1 1] 103)=w5:=⟨_,rfl⟩
 have hr5:=Rd.new w4 2 [.int .i64 num,.slice (some ⟨w3.heap.size,0,none⟩) 1 1] 103 1 rfl (by decide);have hb5:Below w4.heap.size w4 w5:=hw5▸(aj w4.heap.size w4).alloc (ag _) (.cells #[.int .i64 num,.slice (some ⟨w3.heap.size,0,none⟩) 1 1] 103);rw[hw5] at hr5;have G1:=zA hb4 hb5;have X6:=zh (HP.o.bb (hb3.trans (G1.mono Dy)));have jN:=zh (HR.o.bb (hb3.trans (G1.mono Dy)));have gW:=zh ((HB.o.step hb3 Cc).step G1 Fj);have Te:=zh (zE mH.o G1);have G4:=zh (zE hk4 hb5);have jA:=zh (C0.o w5 jN.o.k.row);have Fz:B<=w5.heap.size:=ak Fj G1.size;have p6:=(HP.o.bb hb3).cell (i:=6) rfl
 have nz:=zh (fun w6 w7 a6 c6 a7 c7 (h6:w6.ownsRow B 103 2 (.slice a6 (I+1) c6) (I+1) ((ks.take I).flatMap iy++[.int .i64 num,.slice (some ⟨w3.heap.size,0,none⟩) 1 1])) (g6:w5.grownBy w6 (Value.slice ka I kc).ownBlock) (h7:w7.ownsRow B 103 2 (.slice a7 (I+1+(ks.length-I)) c7) (I+1+(ks.length-I)) ((ks.take I).flatMap iy++[.int .i64 num,.slice (some ⟨w3.heap.size,0,none⟩) 1 1]++(ks.drop I).flatMap iy)) (g7:w6.grownBy w7 (Value.slice a6 (I+1) c6).ownBlock) =>
  show BU w7 b Q.t.id Q.t.lim Q.t.ro ga gn gc Q.eH tk (.slice ka ks.length kc) nv rv Q.bytes/\mX (w7.setCell ⟨b,6,none⟩ (.slice a7 (I+1+(ks.length-I)) c7)) B b tk PZ/\fD B w (w7.setCell ⟨b,6,none⟩ (.slice a7 (I+1+(ks.length-I)) c7)) from by
   have O6:=fM.row jA.o g6 (ag B)
   have O7:=fM.row h6 g7 (ag B)
   have P7:=(X6.o.fC O6 (by decide)).fC O7 (by decide)
   have B6:=gW.o.own jA.o Fz g6 (by decide)
   have B7:=B6.own h6 (ak hB B6.size) g7 (by decide)
   have O8:gO w7 (w7.setCell ⟨b,6,none⟩ (.slice a7 (I+1+(ks.length-I)) c7)) B b 197:=gO.pts hlo ⟨_,_,P7⟩ [(6,.slice a7 (I+1+(ks.length-I)) c7)]
   refine ⟨P7,?_,B7.pts hlo [(6,.slice a7 (I+1+(ks.length-I)) c7)] ⟨_,_,P7⟩ (by decide)⟩
   rw[show I+1+(ks.length-I)=ks.length+1 by omega] at h7 O8 |-
   have K7:iO w7 B (.slice a7 (ks.length+1) c7) (ks.take I++(num,.slice (some ⟨w3.heap.size,0,none⟩) 1 1,[key])::ks.drop I):=
    iO.Yh rQ jN.o.k.apart (fun p hp=>yV (yV (jN.o.k.keys p hp) O6 (by decide)) O7 (by decide)) num key _ h7 (yV (yV G4.o O6 (by decide)) O7 (by decide)) QR
   have M7:rY w7 B {Q with eE:=gV (ks.take I++(num,.slice (some ⟨w3.heap.size,0,none⟩) 1 1,[key])::ks.drop I)} ga gn gc L (.slice a7 (ks.length+1) c7) (ks.take I++(num,.slice (some ⟨w3.heap.size,0,none⟩) 1 1,[key])::ks.drop I) nv es rv:=
    ⟨(jN.o.g.fC O6 (by decide) (by decide)).fC O7 (by decide) (by decide),jN.o.gg,K7,rfl,(jN.o.n.fC O6 (by decide) (by decide)).fC O7 (by decide) (by decide),jN.o.nn,yV (yV jN.o.r O6 (by decide)) O7 (by decide)⟩
   have E:PZ={Q with eE:=gV (ks.take I++(num,.slice (some ⟨w3.heap.size,0,none⟩) 1 1,[key])::ks.drop I)}:=by
    rw[u_.o,ny.o]
    unfold gV
    rw[aU,List.map_cons,List.map_take,List.map_drop]
   rw[E]
   exact ⟨ga,gn,gc,L,_,_,nv,es,rv,hlo,by have h:=eu.set P7 6 (.slice a7 (ks.length+1) c7);rw[zNP] at h;exact h,M7.ik O8⟩)
 clear hk4 hb4 hb5 HR HP HB CZ QQ D_ eW p6a C0 QR;go_wp2_with (at_builtin;first|(refine zP rfl (.tmp 138) (.tmp 143) 76 rfl QM B rfl jA.o rfl hr5 (fun u hu=>by simp only[bp,bt,bu] at hu;rcases hu with h|h<;>rw[h]<;>rfl) (by unfold maxLen;omega) (by omega) Fz ?_;intro v6 w6 iU mq FV;clear FV;obtain ⟨a6,c6,FV,_⟩:=zG iU;subst FV;have hS6:=(zr Te.o).grown mq Yt;have Gs:B<=w6.heap.size:=ak Fz mq.size)|(refine zP rfl (.tmp 144) (.tmp 145) 76 rfl QM B rfl iU rfl hS6 (fun u hu=>jO.o u (by obtain ⟨x,hx,hu⟩:=List.mem_flatMap.1 hu;exact List.mem_flatMap.2 ⟨x,dA hx,hu⟩)) (by unfold maxLen;omega) (by omega) Gs ?_;intro v7 w7 Cz J1 IZ;clear IZ;obtain ⟨a7,c7,IZ,_⟩:=zG Cz;subst IZ;obtain ⟨JX,hm7,pZ⟩:=nz.o w6 w7 a6 c6 a7 c7 iU mq Cz J1;have z6:=JX.cell (i:=6) rfl;have zf:=JX.frozen 6));go_end0;exact ⟨rfl,hm7,pZ⟩
end Go.Proofs.YtcgfilmmokmdjaaGreat
