/- A part of the walk. -/
import Derived.Test.YtcgfilmmokmdjaaGreatBp
import Derived.Test.YtcgfilmmokmdjaaGreatQAU
import Derived.Test.YtcgfilmmokmdjaaGreatQAV
set_option linter.all false
set_option maxRecDepth 100000
set_option maxHeartbeats 32000000
namespace Go.Proofs.YtcgfilmmokmdjaaGreat
open Go.RowKit
theorem zMB (s : eL) (a : Option Addr) (n c : Nat) (L : List GP) (W : World) (hr : fH W (.slice a n c) L) (hg : ea L = s.dW) (hl : fA 1000 s.dW) :
  Calls Tryz.prog 47 #[ze s.id s.lim s.ro a n c] W fun e w' => e = .returned (.bool (zd s)) ∧ Below W.heap.size W w':=by
 have h:=yU s.id s.lim s.ro a n c L W hr (vI (hg ▸ hl) (by decide));obtain ⟨i,l,r,g⟩:=s;dsimp only at hg h ⊢;subst hg;exact h
structure rC (W : World) (B : Nat) (P : fG) (kv : Value) (ks : List KP) (nv : Value) (es : List (Nd × Value)) (rv : Value) : Prop where
 k : gN W B kv ks
 kk : jo ks = P.dY
 n : fW W B nv es
 nn : es.map (·.1) = P.needs
 r : W.ownsRow B 39 1 rv P.res.length (P.res.map I3)
theorem rC.jB {W W' : World} {B b : Nat} {P : fG} {kv : Value} {ks : List KP} {nv : Value} {es : List (Nd × Value)} {rv : Value} (h : rC W B P kv ks nv es rv) (ho : iH W W' B b 71) : rC W' B P kv ks nv es rv:=
 ⟨h.k.jB ho (by decide) (by decide),h.kk,h.n.jB ho (by decide) (by decide),h.nn,xp h.r ho (by decide)⟩
theorem rC.nil (W : World) (B : Nat) (s : eL) : rC W B (xB s) (.slice none 0 0) [] (.slice none 0 0) [] (.slice none 0 0):=
 ⟨⟨aU _ _ _ _,(fun p hp => by cases hp),List.Pairwise.nil⟩,rfl,⟨aU _ _ _ _,(fun p hp => by cases hp)⟩,rfl,aU _ _ _ _⟩
theorem vd {q : Rq} {r : List Rq} {P : fG} (h : (zT P q).1 = true) : tq (q :: r) P = tq r (zT P q).2:=by
 show (if (zT P q).1 = true then _ else _) = _
 rw [ag h]
theorem Zt {q : Rq} {r : List Rq} {P : fG} (h : (zT P q).1 = false) : tq (q :: r) P = (zT P q).2:=by
 show (if (zT P q).1 = true then _ else _) = _
 rw [ah (by rw [h]; decide)]
theorem Zu {K G : Nat} : ∀ (l : List Rq) (P : fG),lQ K G P.res.length P → P.res.length ≤ 16 → (tq l P).res.length ≤ 16 ∧ lQ K G (tq l P).res.length (tq l P)
 | [],P,h,h1 => ⟨h1,h⟩
 | q :: r,P,h,h1 => by
  have h2:=zCm (q:=q) h;have h3:=(qr P q h1).1
  cases e : (zT P q).1
  ·
   rw [Zt e]; exact ⟨h3,h2⟩
  rw [vd e]; exact Zu r _ h2 h3
abbrev LK (eN : Bool) (take : Int) (kv nv rv : Value) : List (Nat × Value):=[(0,.bool eN),(1,.int .i64 take),(2,kv),(3,nv),(4,rv)]
theorem zE2 {W : World} {b : Nat} {r0 : Bool} {t0 : Int} {k0 n0 v0 : Value} (eN : Bool) (take : Int) (kv nv rv : Value) (h : dX W b #[.bool r0,.int .i64 t0,k0,n0,v0] 71) (j : Nat) (u : Value) (hu : [Value.bool eN,.int .i64 take,kv,nv,rv][j]? = some u) :
  (pts W b (LK eN take kv nv rv)).cell? ⟨b,j,none⟩ = some u:=by
 have h1:=dX.sets (LK eN take kv nv rv) h;simp only [cG,cV,aM,aN,aK] at h1;refine dX.cell h1 ?_;rw [← Array.getElem?_toList]; exact hu
theorem zC1 (s : eL) (ga : Option Addr) (gn gc : Nat) (L : List GP) (qa : Option Addr) (qc : Nat) (qs : List (Rq × Value)) (w : World) (hr : fH w (.slice ga gn gc) L) (hg : ea L = s.dW) (hl : fA 700 s.dW) (Co : s.dW.length ≤ 1000000)
  (hq : Dc w (.slice qa qs.length qc) qs) (Pt : qs.length ≤ 1000000) (iy : ∀ p ∈ qs,p.1.data.length ≤ 1000000) :
  Calls Tryz.prog 22 #[ze s.id s.lim s.ro ga gn gc,.slice qa qs.length qc] w fun e w' => ∃ kv ks nv es rv,e = .returned (.tuple #[.agg #[.bool (yA s (qs.map (·.1))).1.eN,.int .i64 ((yA s (qs.map (·.1))).1.res.length : Int),kv,nv,rv],.int .i64 (yA s (qs.map (·.1))).2]) ∧ rC w' w.heap.size (yA s (qs.map (·.1))).1 kv ks nv es rv ∧ Below w.heap.size w w':=by
 have HV:=zh (fun W (hb : Below w.heap.size w W) => zMB s ga gn gc L W (hr.below hb) hg (hl.mono (by decide)));have hb1:=(aj w.heap.size w).alloc (ai _) (.cells #[.int .i64 s.id,.int .i64 s.lim,.bool s.ro,.slice ga gn gc] 27);have hb2:=hb1.trans ((aj _ _).alloc hb1.size (.cells #[.bool false,.int .i64 0,.slice none 0 0,.slice none 0 0,.slice none 0 0] 71));have HX:=zh (dX.new w #[.int .i64 s.id,.int .i64 s.lim,.bool s.ro,.slice ga gn gc] 27);have HY:=zh (dX.new (w.alloc (.cells #[.int .i64 s.id,.int .i64 s.lim,.bool s.ro,.slice ga gn gc] 27)) #[.bool false,.int .i64 0,.slice none 0 0,.slice none 0 0,.slice none 0 0] 71);have gm:=zh (HX.out.below ((aj _ _).alloc (ai _) (.cells #[.bool false,.int .i64 0,.slice none 0 0,.slice none 0 0,.slice none 0 0] 71)))
 have SJ : w.heap.size < (w.alloc (.cells #[.int .i64 s.id,.int .i64 s.lim,.bool s.ro,.slice ga gn gc] 27)).heap.size:=HX.out.lt;have HB:=zh hb2;clear hb1 hb2 HX;have Pj : (w.alloc (.cells #[.int .i64 s.id,.int .i64 s.lim,.bool s.ro,.slice ga gn gc] 27)).heap.size = w.heap.size + 1:=by simp
 rw [Pj] at HY SJ;clear Pj
 go_enter Tryz.func22,Tryz.ntmps22
 go_upto_region 1 with fail;generalize IW : w.heap.size + 1 = bc at *;generalize ((w.alloc (.cells #[.int .i64 s.id,.int .i64 s.lim,.bool s.ro,.slice ga gn gc] 27)).alloc (.cells #[.bool false,.int .i64 0,.slice none 0 0,.slice none 0 0,.slice none 0 0] 71)) = w1 at *;have q0:=gm.out.cell (i:=0) rfl;have q1:=gm.out.cell (i:=1) rfl;have q2:=gm.out.cell (i:=2) rfl;have q3:=gm.out.cell (i:=3) rfl;go_wp2_with fail;refine (HV.out w1 HB.out).mono ?_;rintro e w2 ⟨rfl,hb2⟩;have eV:=zh (zA HB.out hb2);have SK:=zh (gm.out.below hb2);have iq:=zh (HY.out.below hb2);clear hb2 q0 q1 q2 q3 gm HY HB HV;have OC : w.heap.size ≤ bc:=bU SJ
 by_cases hv : zd s = true
 ·
  rw [hv];have Ep:=zh (show yA s (qs.map (·.1)) = (tq (qs.map (·.1)) (xB s),0) by unfold yA; rw [ag hv]);have q0:=SK.out.cell (i:=0) rfl;have q1:=SK.out.cell (i:=1) rfl;have q2:=SK.out.cell (i:=2) rfl;have q3:=SK.out.cell (i:=3) rfl;go_upto_region 3 with fail
  go_cut [6] (fun pv wx => pv = .pointer (some ⟨w2.heap.size,0,none⟩) ∧ wx = w2.alloc (.cells (qJ s.id s.lim s.ro ga gn gc false (.slice none 0 0) (.slice none 0 0) (.slice none 0 0) 0) 145))
  case first =>
   go_wp2_with fail;go_meet
   case rel => exact ⟨rfl,rfl⟩
  obtain ⟨rfl,rfl⟩:=hcut;have eO:=(aj w2.heap.size w2).alloc (ai _) (.cells (qJ s.id s.lim s.ro ga gn gc false (.slice none 0 0) (.slice none 0 0) (.slice none 0 0) 0) 145);have CY:=zh (dX.new w2 (qJ s.id s.lim s.ro ga gn gc false (.slice none 0 0) (.slice none 0 0) (.slice none 0 0) 0) 145);have mE:=zh (iq.out.below eO);have hlo : w.heap.size ≤ w2.heap.size:=eV.out.size;have ap_ : bc < w2.heap.size:=iq.out.lt;have gp:=zh (eV.out.trans (eO.mono hlo));clear eO q0 q1 q2 q3 SK iq;generalize hbp : w2.heap.size = b at *;clear hbp;generalize w2.alloc (.cells (qJ s.id s.lim s.ro ga gn gc false (.slice none 0 0) (.slice none 0 0) (.slice none 0 0) 0) 145) = w3 at *
  have Oo:=zh (show Dd w3 w.heap.size b (xB s) from ⟨ga,gn,gc,L,.slice none 0 0,[],.slice none 0 0,[],.slice none 0 0,hlo,CY.out,⟨(gq.old hr (ai _)).below gp.out,hg,(rC.nil w3 w.heap.size s).k,rfl,(rC.nil w3 w.heap.size s).n,rfl,(rC.nil w3 w.heap.size s).r⟩⟩);have Kw:=zh (show lQ 700 s.dW.length (xB s).res.length (xB s) from ⟨hl,Bt.nil _,ai _,⟨cq _,cq _⟩,ai _⟩);have Bj:=Zu (K:=700) (G:=s.dW.length) (qs.map (·.1)) (xB s) Kw.out (aq _);obtain ⟨jW,Zv⟩ : ∃ jW,tq (qs.map (·.1)) (xB s) = jW:=⟨_,rfl⟩
  rw [Zv] at Ep Bj;have iQ:=zh (show tq ((qs.map (·.1)).drop 0) (xB s) = jW from Zv);have TM:=zh Bj;clear CY Zv Bj
  have Zw:=zh (fun k (hk : k < qs.length) => show (qs.map (·.1)).drop k = (gZ qs k).1 :: (qs.map (·.1)).drop (k + 1) by
   rw [dC (by rw [aI]; exact hk),dN]
   congr 1
   unfold gZ
   rw [aw,aB hk]; rfl)
  have DM:=zh (show (qs.map (·.1)).drop qs.length = [] from bY (by rw [aI]; exact ai _));have HQ:=zh hq;have Ov:=zh (fun k (hk : k < qs.length) => iy _ (YA hk));clear hq iy hr hg hl;generalize hnn : qs.length = n at *;clear hnn
  go_upto_block 0 with fail
  go_cut [18] (fun _ wx => Hid (Dd wx w.heap.size b jW) ∧ Hid (dX wx bc #[.bool false,.int .i64 0,.slice none 0 0,.slice none 0 0,.slice none 0 0] 71) ∧ Hid (fk w.heap.size w wx))
  case first =>
   go_wp2_with fail
   go_loopw [18] (fun iv W => ∃ (k : Nat) (P : fG),iv = .int .i64 (k : Int) ∧ k ≤ n ∧ Hid (tq ((qs.map (·.1)).drop k) P = jW) ∧ P.res.length ≤ 16 ∧ Hid (lQ 700 s.dW.length P.res.length P) ∧ Hid (Dd W w.heap.size b P) ∧ Hid (dX W bc #[.bool false,.int .i64 0,.slice none 0 0,.slice none 0 0,.slice none 0 0] 71) ∧ Hid (fk w.heap.size w W)) (fun iv _ => n - (intOf iv).toNat)
   case atStart => exact ⟨0,xB s,rfl,aq _,iQ,aq _,Kw,Oo,mE,zh (fk.of gp.out (ai _))⟩
   clear Kw Oo iQ mE gp;obtain ⟨k,P,rfl,hk,iQ,iz,HI,HP,HY,HB⟩:=hrel
   by_cases hlt : k < n
   ·
    have j1 : (k : Int) < (n : Int):=by omega
    obtain ⟨qb,qo,e0,hd,c0,c1,c2,c3,c4⟩:=(HQ.out.below HB.out.b).at (j:=k) hlt;subst e0;have hD1:=Zw.out k hlt;have Zx:=iQ.out;rw [hD1] at Zx;have hdk:=Ov.out k hlt;generalize (gZ qs k).1 = q at *;generalize (gZ qs k).2 = dv at *;obtain ⟨da,dc,rfl,_,_⟩:=hd.gl;have lz:=zh Zx;obtain ⟨Oq,MH,Ot,L1,MI,jh,I8,D4,I9,DK,Eu,hR1⟩:=HP.out;have hes : D4.length ≤ 900:=by
     have h:=aQ List.length hR1.nn;rw [aI] at h;have:=HI.out.e;omega
    have SL : w.heap.size ≤ wr.heap.size:=HB.out.size;have DT:=zh (fun W (hb : Below wr.heap.size wr W) => zH5 DK (Eu.below hb) (hR1.below hb) (HI.out.l.mono (by omega)) (ak SL hb.size) hes (by have h:=HI.out.b; omega) (8 * P.res.length) (by omega) HI.out.k (ak HI.out.g Co) q q.tk q.kind (q.key : Int) (q.ck : Int) da q.data.length dc (iw.below hd hb) hdk iz rfl rfl rfl);have eO:=(aj wr.heap.size wr).alloc (ai _) (.cells #[.int .i64 q.tk,.int .i64 q.kind,.int .u64 (q.key : Int),.int .u32 (q.ck : Int),.slice da q.data.length dc] 85);have JY:=zh (DT.out _ eO);have HX:=zh (dX.new wr #[.int .i64 q.tk,.int .i64 q.kind,.int .u64 (q.key : Int),.int .u32 (q.ck : Int),.slice da q.data.length dc] 85);have gw:=zh (HB.out.step eO SL);have C7:=zh (HY.out.below eO);have BX:=zh (zCm (q:=q) HI.out);have Fi:=(qr P q iz).1
    have jM:=zh (fun h => (vd (q:=q) (r:=(qs.map (·.1)).drop (k + 1)) (P:=P) h).symm.trans lz.out);have OD:=zh (fun h => (Zt (q:=q) (r:=(qs.map (·.1)).drop (k + 1)) (P:=P) h).symm.trans lz.out);clear eO Eu hR1 hes hd hD1 Zx lz iQ HP HI DT hdk;go_upto_region 7 with fail;change Code.wp _ _ _ _ (wr.alloc (.cells #[.int .i64 q.tk,.int .i64 q.kind,.int .u64 (q.key : Int),.int .u32 (q.ck : Int),.slice da q.data.length dc] 85));generalize wr.alloc (.cells #[.int .i64 q.tk,.int .i64 q.kind,.int .u64 (q.key : Int),.int .u32 (q.ck : Int),.slice da q.data.length dc] 85) = w5 at *;have x0:=HX.out.cell (i:=0) rfl;have x1:=HX.out.cell (i:=1) rfl;have x2:=HX.out.cell (i:=2) rfl;have x3:=HX.out.cell (i:=3) rfl;have x4:=HX.out.cell (i:=4) rfl;generalize (zT P q).2 = P2 at *;obtain ⟨pb,hpb⟩ : ∃ pb,(zT P q).1 = pb:=⟨_,rfl⟩
    rw [hpb] at JY jM OD;clear hpb;go_wp2_with fail;refine JY.out.mono ?_;rintro e w6 ⟨rfl,Sy,l9⟩;have UN:=zh Sy;have jK:=zh (gw.out.trans l9);have K9:=zh (l9.box C7.out (by decide));clear Sy l9 HX JY gw HB HY C7 x0 x1 x2 x3 x4 c0 c1 c2 c3 c4
    cases pb
    ·
     have JO:=zh (show Dd w6 w.heap.size b jW by rw [← OD.out rfl]; exact UN.out);go_wp2_with fail;go_meet
     case rel => exact ⟨JO,K9,jK⟩
    have iQ:=zh (jM.out rfl);go_wp2_with fail;exact ⟨⟨k + 1,P2,by go_num,by omega,iQ,Fi,BX,UN,K9,jK⟩,by simp [intOf]; omega⟩
   have j1 : ¬ (k : Int) < (n : Int):=by omega
   obtain rfl : k = n:=by omega
   have JO:=zh (show Dd wr w.heap.size b jW by have h:=iQ.out; rw [DM.out] at h; rw [← h]; exact HP.out);go_wp2_with fail;go_meet
   case rel => exact ⟨JO,HY,HB⟩
  obtain ⟨HP,HY,HB⟩:=hcut;generalize wc = v1 at *;obtain ⟨Oq,MH,Ot,L1,MI,jh,I8,D4,I9,DK,Eu,hR1⟩:=HP.out;have aqb:=TM.out.1;obtain ⟨ra,rc,Zi,hr1,hr2,_⟩:=zM hR1.r;subst Zi;obtain ⟨ka,kc,Y0,_,_,_⟩:=zM hR1.k.row;obtain ⟨na,nc,YI,_,_,_⟩:=zM hR1.n.row;subst Y0 YI;have q8:=Eu.cell (i:=8) rfl;have q5:=Eu.cell (i:=5) rfl;have f5:=Eu.frozen 5;have Zy:=Eu.set 5 (.int .i64 (jW.res.length : Int));simp only [aM,aN,aK] at Zy;have DS:=zh Zy;have gj:=zh (hR1.jB (iH.pts DK ⟨_,_,Eu⟩ [(5,.int .i64 (jW.res.length : Int))]));have eV:=zh (HB.out.pts DK [(5,.int .i64 (jW.res.length : Int))] ⟨_,_,Eu⟩ (by decide));have iq:=zh (dX.eD (c:=b) (by omega) [(5,.int .i64 (jW.res.length : Int))] HY.out);change Hid (lF (v1.setCell ⟨b,5,none⟩ (.int .i64 (jW.res.length : Int))) _ _ _ _ _ _ _ _ _ _ _) at gj
  change Hid (fk _ _ (v1.setCell ⟨b,5,none⟩ (.int .i64 (jW.res.length : Int)))) at eV;change Hid (dX (v1.setCell ⟨b,5,none⟩ (.int .i64 (jW.res.length : Int))) _ _ _) at iq;clear Eu hR1 Zy HP HY HB;go_upto_region 10 with fail;change Code.wp _ _ _ _ (v1.setCell ⟨b,5,none⟩ (.int .i64 (jW.res.length : Int)));generalize v1.setCell ⟨b,5,none⟩ (.int .i64 (jW.res.length : Int)) = v2 at *;clear q8 q5 f5;have q4:=DS.out.cell (i:=4) rfl;have q5:=DS.out.cell (i:=5) rfl;have q6:=DS.out.cell (i:=6) rfl;have q7:=DS.out.cell (i:=7) rfl;have q8:=DS.out.cell (i:=8) rfl;have y0:=iq.out.cell (i:=0) rfl;have y1:=iq.out.cell (i:=1) rfl;have y2:=iq.out.cell (i:=2) rfl;have y3:=iq.out.cell (i:=3) rfl;have y4:=iq.out.cell (i:=4) rfl;have yf:=iq.out.frozen;have hne : ¬ b = bc:=by omega
  have aqc : ¬ bc = b:=by omega
  go_wp2_with fail;change bodyPost _ _ _ _ _ (pts v2 bc (LK jW.eN (jW.res.length : Int) (.slice ka jh.length kc) (.slice na D4.length nc) (.slice ra jW.res.length rc)));have hby:=zE2 jW.eN (jW.res.length : Int) (.slice ka jh.length kc) (.slice na D4.length nc) (.slice ra jW.res.length rc) iq.out;have ey:=zh (zD (B:=w.heap.size) (b:=bc) OC (LK jW.eN (jW.res.length : Int) (.slice ka jh.length kc) (.slice na D4.length nc) (.slice ra jW.res.length rc)) eV.out.b);have HPo:=zh ((show rC v2 w.heap.size jW (.slice ka jh.length kc) jh (.slice na D4.length nc) D4 (.slice ra jW.res.length rc) from ⟨gj.out.k,gj.out.kk,gj.out.n,gj.out.nn,gj.out.r⟩).jB (iH.pts OC ⟨_,_,iq.out⟩ (LK jW.eN (jW.res.length : Int) (.slice ka jh.length kc) (.slice na D4.length nc) (.slice ra jW.res.length rc))))
  generalize pts v2 bc (LK jW.eN (jW.res.length : Int) (.slice ka jh.length kc) (.slice na D4.length nc) (.slice ra jW.res.length rc)) = V at *;exact au (v:=.tuple #[.agg #[.bool jW.eN,.int .i64 (jW.res.length : Int),.slice ka jh.length kc,.slice na D4.length nc,.slice ra jW.res.length rc],.int .i64 0]) (by simp [results,Tryz.results22,go_sem,hby 0 _ rfl,hby 1 _ rfl,hby 2 _ rfl,hby 3 _ rfl,hby 4 _ rfl]) rfl ⟨_,jh,_,D4,_,by rw [Ep.out],by rw [Ep.out]; exact HPo.out,ey.out⟩
 have hvf : zd s = false:=by simpa using hv
 have Ep:=zh (show yA s (qs.map (·.1)) = (xB wJ,1) by unfold yA; rw [ah hv]);rw [hvf];have y0:=iq.out.cell (i:=0) rfl;have y1:=iq.out.cell (i:=1) rfl;have y2:=iq.out.cell (i:=2) rfl;have y3:=iq.out.cell (i:=3) rfl;have y4:=iq.out.cell (i:=4) rfl;have yf:=iq.out.frozen;go_wp2_with fail;change bodyPost _ _ _ _ _ (pts w2 bc (LK false 0 (.slice none 0 0) (.slice none 0 0) (.slice none 0 0)));have hby:=zE2 false 0 (.slice none 0 0) (.slice none 0 0) (.slice none 0 0) iq.out;have ey:=zh (zD (B:=w.heap.size) (b:=bc) OC (LK false 0 (.slice none 0 0) (.slice none 0 0) (.slice none 0 0)) eV.out);generalize pts w2 bc (LK false 0 (.slice none 0 0) (.slice none 0 0) (.slice none 0 0)) = V at *
 exact au (v:=.tuple #[.agg #[.bool false,.int .i64 0,.slice none 0 0,.slice none 0 0,.slice none 0 0],.int .i64 1]) (by simp [results,Tryz.results22,go_sem,hby 0 _ rfl,hby 1 _ rfl,hby 2 _ rfl,hby 3 _ rfl,hby 4 _ rfl]) rfl ⟨_,[],_,[],_,by rw [Ep.out]; rfl,by rw [Ep.out]; exact rC.nil _ _ _,ey.out⟩
end Go.Proofs.YtcgfilmmokmdjaaGreat
namespace Go.Proofs.YtcgfilmmokmdjaaGreat
/-! ### The keys of a generation among dY -/
def yS : List Kl → Int → List Int
 | [],_ => []
 | k :: r,n => (if k.1 = n then k.2 else []) ++ yS r n
theorem t7 : ∀ (l m : List Kl) (n : Int),yS (l ++ m) n = yS l n ++ yS m n
 | [],_,_ => rfl
 | k :: r,m,n => by
  show (if k.1 = n then k.2 else []) ++ yS (r ++ m) n = ((if k.1 = n then k.2 else []) ++ yS r n) ++ yS m n
  rw [t7 r m n,a_]
theorem vB : ∀ {l : List Kl} {n : Int},(∀ x ∈ l,x.1 ≠ n) → yS l n = []
 | [],_,_ => rfl
 | k :: r,n,h => by
  show (if k.1 = n then k.2 else []) ++ yS r n = []
  rw [ah (h k (by simp)),vB fun x hx => h x (by simp [hx])]; rfl
theorem zE7 {l : List Kl} (ha : l.Pairwise fun a b => a.1 < b.1) (num key n : Int) : yS (ku l num key) n = if n = num then yS l n ++ [key] else yS l n:=by
 have hlo : ∀ x ∈ l.take (fL l num),x.1 < num:=fun x hx => by
  obtain ⟨j,hj,rfl⟩:=b7 hx;rw [ay] at hj;rw [List.getElem_take,xK (show j < l.length by omega)];exact zKi l num (by omega)
 by_cases hh : fL l num < l.length ∧ (yE l (fL l num)).1 = num
 ·
  rw [ki hh];have e : l = l.take (fL l num) ++ yE l (fL l num) :: l.drop (fL l num + 1):=by
   rw [← xK hh.1,← dC hh.1,bN]
  have e2 : l.set (fL l num) (num,(yE l (fL l num)).2 ++ [key]) = l.take (fL l num) ++ (num,(yE l (fL l num)).2 ++ [key]) :: l.drop (fL l num + 1):=by
   rw [List.set_eq_take_append_cons_drop,ag hh.1]
  have PU : ∀ x ∈ l.drop (fL l num + 1),num < x.1:=fun x hx => by
   obtain ⟨j,hj,rfl⟩:=b7 hx;rw [aP] at hj;rw [List.getElem_drop,xK (show fL l num + 1 + j < l.length by omega)];have:=RZ ha (show fL l num < fL l num + 1 + j by omega) (by omega);rw [hh.2] at this; exact this
  have e3 : yS l n = yS (l.take (fL l num)) n ++ ((if (yE l (fL l num)).1 = n then (yE l (fL l num)).2 else []) ++ yS (l.drop (fL l num + 1)) n):=by
   conv => lhs; rw [e]
   exact t7 _ _ _
  rw [e2,t7,e3]
  show _ ++ ((if num = n then (yE l (fL l num)).2 ++ [key] else []) ++ yS _ n) = _
  by_cases en : n = num
  ·
   subst en;rw [ag rfl,ag rfl,ag hh.2,vB fun x hx => by have:=hlo x hx; omega,vB fun x hx => by have:=PU x hx; omega];simp
  rw [ah fun e => en e.symm,ah en,ah (by rw [hh.2]; exact fun e => en e.symm)]
 rw [qR hh];have PU : ∀ x ∈ l.drop (fL l num),num < x.1:=fun x hx => by
  obtain ⟨j,hj,rfl⟩:=b7 hx;rw [aP] at hj;rw [List.getElem_drop,xK (show fL l num + j < l.length by omega)];have h1:=zIk l num (by omega);have h2 : (yE l (fL l num)).1 ≠ num:=fun e => hh ⟨by omega,e⟩
  by_cases e : j = 0
  ·
   subst e; rw [bu]; omega
  have:=RZ ha (show fL l num < fL l num + j by omega) (by omega); omega
 have e3 : yS l n = yS (l.take (fL l num)) n ++ yS (l.drop (fL l num)) n:=by
  rw [← t7,bN]
 rw [t7,e3]
 show _ ++ ((if num = n then [key] else []) ++ yS _ n) = _
 by_cases en : n = num
 ·
  subst en;rw [ag rfl,ag rfl,vB fun x hx => by have:=hlo x hx; omega,vB fun x hx => by have:=PU x hx; omega];simp
 rw [ah fun e => en e.symm,ah en]; rfl
/-! ### A generation that ahf keys -/
def yR (g : Gn) (keys : List Int) : Gn:={ g with m:=keys.foldl yP g.m }
theorem zB6 : ∀ (keys : List Int) {g : Gn},gX g → gX (yR g keys)
 | [],_,h => h
 | k :: r,g,h => zB6 r (X6 h k)
theorem zFt (g : Gn) (keys : List Int) (k : Int) : kA (yR g keys) k = yR g (keys ++ [k]):=by
 unfold kA yR;rw [dy]; rfl
theorem zGK (g : Gn) (a b : List Int) : yR (yR g a) b = yR g (a ++ b):=by
 unfold yR;rw [dy]
theorem Zz {s : eL} (h : eA s) {j : Nat} (hj : j + 1 < s.dW.length) (keys : List Int) : Fit s j (yR (eB s.dW j) keys):=by
 have ho:=h.g j (by omega);exact ⟨by omega,zB6 keys (h.vg (by omega)),rfl,ho.2.2.1,ho.2.2.2,fun e => by omega⟩
theorem zBs {s : eL} (h : eA s) {r : Nat} (hr : r + 1 < s.dW.length) (keys : List Int) : yv s (eB s.dW r).num keys = (tW s r (yR (eB s.dW r) keys),0):=by
 have hm : (eB s.dW r).mode ≠ 1:=fun e => by have:=(h.g r (by omega)).2.2.1.1 e; omega
 have hk : yY (eB s.dW r) keys = (0,yR (eB s.dW r) keys):=by
  unfold yY;rw [ag ((yF _).2 (h.vg (by omega))),ah hm]; rfl
 unfold yv;rw [zHA h (by omega),ag (by omega),hk,ag rfl,RA h (Zz h hr keys)]
theorem k6 {s : eL} {j : Nat} (hj : j < s.dW.length) (g : Gn) (i : Nat) : eB (tW s j g).dW i = if i = j then g else eB s.dW i:=vW hj g i
theorem zA2 : ∀ (l : List Kl) (s : eL),eA s → (l.Pairwise fun a b => a.1 < b.1) → (∀ x ∈ l,∃ r,r + 1 < s.dW.length ∧ x.1 = (eB s.dW r).num) →
  (zj l s).2 = 0 ∧ Kp s (zj l s).1 ∧ zK (zj l s).1 = zK s ∧ ∀ r,r + 1 < s.dW.length → eB (zj l s).1.dW r = yR (eB s.dW r) (yS l (eB s.dW r).num)
 | [],s,h,_,_ => ⟨rfl,Kp.refl h,rfl,fun r _ => rfl⟩
 | k :: l,s,h,ha,hn => by
  rw [cR] at ha;obtain ⟨r0,MZ,e0⟩:=hn k (by simp);have hk:=zBs h MZ k.2;rw [← e0] at hk;have hf:=Zz h MZ k.2;have hK:=(Kp.refl h).set hf;have hlen : (tW s r0 (yR (eB s.dW r0) k.2)).dW.length = s.dW.length:=hK.len
  obtain ⟨h1,h2,h3,h4⟩:=zA2 l (tW s r0 (yR (eB s.dW r0) k.2)) hK.v ha.2 (fun x hx => by
   obtain ⟨r,hr,e⟩:=hn x (by simp [hx])
   exact ⟨r,by rw [hlen]; exact hr,by rw [e,hK.num r (by omega)]⟩)
  have e : zj (k :: l) s = zj l (tW s r0 (yR (eB s.dW r0) k.2)):=by
   show (if (yv s k.1 k.2).2 = 0 then zj l (yv s k.1 k.2).1 else _) = _
   rw [hk]; exact ag rfl
  rw [e];refine ⟨h1,hK.trans h2,by rw [h3,Ze MZ],fun r hr => ?_⟩;rw [h4 r (by rw [hlen]; exact hr),k6 (by omega)]
  show yR _ _ = yR (eB s.dW r) ((if k.1 = (eB s.dW r).num then k.2 else []) ++ yS l (eB s.dW r).num)
  by_cases er : r = r0
  ·
   subst er;rw [ag rfl,ag e0];exact zGK _ _ _
  have hne : k.1 ≠ (eB s.dW r).num:=fun e2 => by
   rw [e0] at e2;exact h.Cp (show r0 < s.dW.length by omega) (show r < s.dW.length by omega) (fun e => er e.symm) e2
  rw [ah er,ah hne]; rfl
/-! ### What a ZA numbers say of the fV slot -/
structure mL (S : eL) (P : fG) : Prop where
 kp : Kp S P.t
 top : zK P.t = zX (zK S) P.needs
 low : ∀ r,r + 1 < S.dW.length → eB P.t.dW r = yR (eB S.dW r) (yS P.dY (eB S.dW r).num)
 DZ : P.dY.Pairwise fun a b => a.1 < b.1
 num : ∀ x ∈ P.dY,∃ r,r + 1 < S.dW.length ∧ x.1 = (eB S.dW r).num
 ok : ∀ x ∈ P.needs,x.ok
theorem mL.start {S : eL} (h : eA S) : mL S (xB S):=⟨Kp.refl h,rfl,fun _ _ => rfl,List.Pairwise.nil,(fun x hx => by cases hx),(fun x hx => by cases hx)⟩
theorem mL.more {S : eL} {P : fG} (h : mL S P) (e : Int) : mL S (more P e):=⟨h.kp,h.top,h.low,h.DZ,h.num,h.ok⟩
theorem mL.eN {S : eL} {P : fG} (h : mL S P) (b : Bool) : mL S { P with eN:=b }:=⟨h.kp,h.top,h.low,h.DZ,h.num,h.ok⟩
theorem mL.add {S : eL} {P : fG} (h : mL S P) {x : Nd} (hc : kT P.t x) : mL S (vy P x):=by
 have hv:=h.kp.v;have ht:=Zf hv hc;have hlen:=hv.len;refine ⟨h.kp.trans (US hv hc),?_,fun r hr => ?_,h.DZ,h.num,fun y hy => ?_⟩
 ·
  show zK (vy P x).t = zX (zK S) (P.needs ++ [x])
  rw [ht,Zd hv,ub,h.top]
 ·
  show eB (vy P x).t.dW r = _
  rw [ht,k6 (by omega),ah (by have:=h.kp.len; omega)];exact h.low r hr
 rcases List.mem_append.1 (show y ∈ P.needs ++ [x] from hy) with hy | hy
 ·
  exact h.ok y hy
 obtain rfl:=List.mem_singleton.1 hy; exact hc.1
theorem zJW {l : List Kl} {num key : Int} {x : Kl} (h : x ∈ ku l num key) : x ∈ l ∨ x.1 = num:=by
 by_cases hh : fL l num < l.length ∧ (yE l (fL l num)).1 = num
 ·
  rw [ki hh] at h;rcases dV h with h | rfl
  ·
   exact .inl h
  exact .inr rfl
 rw [qR hh] at h;rcases List.mem_append.1 h with h | h
 ·
  exact .inl (aY h)
 rcases List.mem_cons.1 h with rfl | h
 ·
  exact .inr rfl
 exact .inl (dH h)
theorem zI2 {l : List Kl} (ha : l.Pairwise fun a b => a.1 < b.1) (hn : ∀ x ∈ l,1 ≤ x.1 ∧ x.1 ≤ 8) {num : Int} (h8 : 1 ≤ num ∧ num ≤ 8) (key : Int) : (ku l num key).Pairwise fun a b => a.1 < b.1:=by
 obtain ⟨M,hM⟩ : ∃ M : Nat,∀ x ∈ l,x.2.length ≤ M:=by
  clear ha hn
  induction l with
  | nil => exact ⟨0,fun x hx => by cases hx⟩
  | cons y r ih =>
   obtain ⟨M,h⟩:=ih;refine ⟨M + y.2.length,fun x hx => ?_⟩;rcases List.mem_cons.1 hx with rfl | hx
   ·
    omega
   have:=h x hx; omega
 exact (Bt.ins (M:=M) ⟨ha,hn,hM⟩ h8 key).DZ
theorem mL.kill {S : eL} (hS : eA S) {P : fG} (h : mL S P) {r0 : Nat} (hr : r0 + 1 < S.dW.length) (key : Int) : mL S (yp key P (eB S.dW r0).num):=by
 have hv:=h.kp.v;have hl:=h.kp.len;have hr2 : r0 + 1 < P.t.dW.length:=by omega
 have e2 : (yp key P (eB S.dW r0).num).t = tW P.t r0 (kA (eB P.t.dW r0) key):=by
  show (yv P.t (eB S.dW r0).num [key]).1 = _
  rw [← h.kp.num r0 (by omega),zES hv hr2]
 have h18 : ∀ r,r < S.dW.length → 1 ≤ (eB S.dW r).num ∧ (eB S.dW r).num ≤ 8:=fun r hr => (hS.vg hr).num
 refine ⟨by rw [e2]; exact h.kp.set (fit_drop hv hr2 key),by rw [e2,Ze hr2]; exact h.top,fun r hr3 => ?_,?_,fun x hx => ?_,h.ok⟩
 ·
  rw [e2,k6 (by omega)]
  show _ = yR _ (yS (ku P.dY (eB S.dW r0).num key) (eB S.dW r).num)
  rw [zE7 h.DZ]
  by_cases e : r = r0
  ·
   subst e;rw [ag rfl,ag rfl,h.low r hr3,zFt]
  rw [ah e,ah (hS.Cp (by omega) (by omega) e)];exact h.low r hr3
 ·
  exact zI2 h.DZ (fun x hx => by
   obtain ⟨r,h1,e⟩:=h.num x hx
   rw [e]; exact h18 r (by omega)) (h18 r0 (by omega)) key
 rcases zJW hx with hx | e
 ·
  exact h.num x hx
 exact ⟨r0,hr,e⟩
theorem mL.dY {S : eL} (hS : eA S) {key : Int} : ∀ (l : List Int) {P : fG},mL S P → (∀ x ∈ l,∃ r,r + 1 < S.dW.length ∧ x = (eB S.dW r).num) → mL S (l.foldl (yp key) P)
 | [],_,h,_ => h
 | x :: l,P,h,hl => by
  obtain ⟨r,hr,e⟩:=hl x (by simp);subst e;exact mL.dY hS l (h.kill hS hr key) fun y hy => hl y (by simp [hy])
theorem mL.OE {S : eL} (hS : eA S) {P : fG} (h : mL S P) (key : Int) : mL S (yN P key):=
 mL.dY hS _ h fun x hx => by
  obtain ⟨r,h1,e⟩:=ur h.kp.v hx;have hl:=h.kp.len;exact ⟨r,by omega,by rw [e,h.kp.num r (by omega)]⟩
theorem mL.plan {S : eL} (hS : eA S) {P : fG} (h : mL S P) (q : Rq) : mL S (zT P q).2:=by
 have hv:=h.kp.v;unfold zT
 split
 ·
  exact h
 split
 ·
  split
  ·
   exact h.eN _
  split
  ·
   rename_i hc
   split
   ·
    exact h
   exact (h.add (UR hv hc)).more _
  exact h.more _
 split
 ·
  split
  ·
   split
   ·
    exact h
   refine mL.more ?_ _;have hk:=h.OE hS (q.key : Int);unfold yl
   split
   ·
    rename_i ht;exact hk.add (zFD ((uD hk.kp.v _).1 ht))
   exact hk
  exact h.more _
 exact h.more _
/-! ### One request at a time -/
theorem zAn (key : Int) : ∀ (l : List Int) (P Q : fG),P.t = Q.t → (l.foldl (yp key) P).t = (l.foldl (yp key) Q).t
 | [],_,_,h => h
 | x :: l,P,Q,h => zAn key l (yp key P x) (yp key Q x) (by show (yv P.t x [key]).1 = (yv Q.t x [key]).1; rw [h])
theorem zJh (P : fG) (key : Int) : (yN P key).t = (yN (xB P.t) key).t:=zAn key _ P (xB P.t) rfl
theorem zLS {P : fG} (h : eA P.t) (q : Rq) : (yl P q).t = (yl (xB P.t) q).t:=by
 have e:=zJh P (q.key : Int);unfold yl;rw [e]
 by_cases hb : wT (yN (xB P.t) q.key).t q.key = true
 ·
  rw [ag hb,ag hb]
  show (yM (yN P q.key).t _).1 = (yM (yN (xB P.t) q.key).t _).1
  rw [e]
 rw [ah hb,ah hb]; exact e
theorem zE0 {P : fG} (hv : eA P.t) {q : Rq} (h : (zT P q).1 = true) :
  (zT (xB P.t) q).1 = true ∧ (zT (xB P.t) q).2.t = (zT P q).2.t ∧ (zT (xB P.t) q).2.eN = false ∧ ∃ e,(zT (xB P.t) q).2.res = [e] ∧ (zT P q).2.res = P.res ++ [e]:=by
 have iz : ¬ P.res.length = 16:=fun e => by rw [tP e] at h; cases h
 have h0 : ¬ (xB P.t).res.length = 16:=by show ¬ (0 : Nat) = 16; omega
 by_cases h1 : q.kind = 1
 ·
  by_cases h9 : zn P.t q = 9 ∧ wh P.t = true
  ·
   rw [qi iz h1 h9.1 h9.2] at h; cases h
  by_cases hc : zn P.t q = 0
  ·
   by_cases hb : 0 < P.bytes ∧ 16384 < P.bytes + (eP q.data.length : Int)
   ·
    rw [tE iz h1 hc hb] at h; cases h
   rw [vn iz h1 hc hb,vn (P:=xB P.t) h0 h1 hc (by show ¬ ((0 : Int) < 0 ∧ _); omega)];exact ⟨rfl,rfl,rfl,0,rfl,rfl⟩
  rw [wy iz h1 h9 hc,wy (P:=xB P.t) h0 h1 h9 hc];exact ⟨rfl,rfl,rfl,_,rfl,rfl⟩
 by_cases h2 : q.kind = 2
 ·
  rcases uW (P:=P) (q:=q) with h3 | h3
  ·
   by_cases hb : wT P.t q.key = true ∧ 0 < P.bytes ∧ 16384 < P.bytes + 24
   ·
    rw [tR iz h2 h3 hb] at h; cases h
   rw [ww iz h2 h3 hb,ww (P:=xB P.t) h0 h2 h3 (by show ¬ (_ ∧ (0 : Int) < 0 ∧ _); omega)];refine ⟨rfl,(zLS hv q).symm,?_,0,?_,?_⟩
   ·
    show (yl (xB P.t) q).eN = false
    have hr:=(xC (xB P.t) q.key).2.2.2;unfold yl
    split
    ·
     exact hr
    exact hr
   ·
    show (yl (xB P.t) q).res ++ [0] = [0]
    rw [vm]; rfl
   show (yl P q).res ++ [0] = P.res ++ [0]
   rw [vm]
  rw [vC iz h2 h3,vC (P:=xB P.t) h0 h2 h3];exact ⟨rfl,rfl,rfl,_,rfl,rfl⟩
 rw [vL iz h1 h2,vL (P:=xB P.t) h0 h1 h2];exact ⟨rfl,rfl,rfl,_,rfl,rfl⟩
noncomputable def ew (S : eL) (K : List Rq) : Nat → fG
 | 0 => xB S
 | i + 1 => (zT (ew S K i) (yC K i)).2
theorem UW {S : eL} (hS : eA S) (K : List Rq) : ∀ i,Kp S (ew S K i).t
 | 0 => Kp.refl hS
 | i + 1 => (UW hS K i).trans (zFV (UW hS K i).v _)
structure zNF (S : eL) (K : List Rq) : Prop where
 m : (yA S K).2 = 0
 n : (yA S K).1.res.length ≤ K.length
 eN : (yA S K).1.eN = true → (yA S K).1.res.length = 0 ∧ wh S = true
 all : (yA S K).1.eN = false → zJ0 S false (yA S K).1.dY (yA S K).1.needs = ((ew S K (yA S K).1.res.length).t,0)
 one : ∀ i,i < (yA S K).1.res.length → (yA (ew S K i).t [yC K i]).2 = 0 ∧ (yA (ew S K i).t [yC K i]).1.res = [xT (yA S K).1.res i] ∧ (yA (ew S K i).t [yC K i]).1.eN = false ∧
  zJ0 (ew S K i).t false (yA (ew S K i).t [yC K i]).1.dY (yA (ew S K i).t [yC K i]).1.needs = ((ew S K (i + 1)).t,0)
theorem zK3 {S : eL} {K : List Rq} (hS : eA S) {n : Nat} (h : ∀ j,j < n → (zT (ew S K j) (yC K j)).1 = true) : ∀ i,i ≤ n → (ew S K i).res = (ew S K n).res.take i:=by
 have key : ∀ d i,i + d = n → (ew S K i).res.length = i → (ew S K i).res = (ew S K n).res.take i:=by
  intro d
  induction d with
  | zero =>
   intro i hi hl;obtain rfl : i = n:=by omega
   rw [aH (by omega)]
  | succ d ih =>
   intro i hi hl;obtain ⟨_,_,_,e,_,h3⟩:=zE0 (UW hS K i).v (h i (by omega));have h3 : (ew S K (i + 1)).res = (ew S K i).res ++ [e]:=h3;have h4:=ih (i + 1) (by omega) (by rw [h3,ax,hl]; rfl);have h5:=aQ (List.take i) h4;rw [h3,dQ (by omega),aH (by omega),dh,bJ (by omega)] at h5;exact h5
 have hl : ∀ i,i ≤ n → (ew S K i).res.length = i:=by
  intro i
  induction i with
  | zero => intro _; rfl
  | succ i ih =>
   intro hi;obtain ⟨_,_,_,e,_,h3⟩:=zE0 (UW hS K i).v (h i (by omega));have h3 : (ew S K (i + 1)).res = (ew S K i).res ++ [e]:=h3;rw [h3,ax,ih (by omega)]; rfl
 intro i hi;exact key (n - i) i (by omega) (hl i hi)
end Go.Proofs.YtcgfilmmokmdjaaGreat
