import Derived.Test.YtcgfilmmokmdjaaGreatQAQ
set_option linter.all false
set_option maxRecDepth 100000
set_option maxHeartbeats 32000000
namespace Go.Proofs.YtcgfilmmokmdjaaGreat
open Go.Proofs.Tryz
open Go.RowKit
def zMt (s:fk) (a:Option Addr) (n c:Nat) (L:List GP) (W:World) (hr:fB W (.slice a n c) L) (hg:ey L=s.ep) (hl:fF 1000 s.ep) (key:Int) :
  Calls prog 16 #[zQ s.id s.lim s.ro a n c,.int .u64 key] W fun e w'=>e=.returned (.tuple #[Dt ((yF s key).headD yv),.bool (!(yF s key).isEmpty)])/\Below W.heap.size W w':=by
 have h:=zIF s.id s.lim s.ro a n c L W hr (yx (hg▸hl) (by decide)) key;obtain ⟨i,l,r,g⟩:=s;dsimp only at hg h |-;subst hg;exact h
def zNd (s:fk) (a:Option Addr) (n c:Nat) (L:List GP) (W:World) (hr:fB W (.slice a n c) L) (hg:ey L=s.ep) (hl:fF 1000 s.ep) (m:Int) :
  Calls prog 36 #[zQ s.id s.lim s.ro a n c,.int .i64 m] W fun e w'=>e=.returned (.bool (xA s m))/\Below W.heap.size W w':=by
 have h:=zIa s.id s.lim s.ro a n c L W hr (yx (hg▸hl) (by decide)) m;obtain ⟨i,l,r,g⟩:=s;dsimp only at hg h |-;subst hg;exact h
def zJP (tk kind key ck:Int) (da:Option Addr) (dn dc:Nat) (w:World) (hd:dn<=1000000):Calls prog 108 #[Eg tk kind key ck (.slice da dn dc)] w fun e w'=>e=.returned (.int .i64 (if kind=2 then 24 else (eY dn:Int)))/\Below w.heap.size w w':=by
 by_cases hk:kind=2
 ·have e1:(kind==2)=true:=by simpa using hk
  have HE:Hid ((if kind=2 then (24:Int) else (eY dn:Int))=24):=zh (ah hk);have H0:=zh (fun W=>qm 0 W (by decide));generalize (if kind=2 then (24:Int) else (eY dn:Int))=R at *;clear hk;obtain ⟨W,hW⟩:∃ W,w.alloc (.cells #[.int .i64 tk,.int .i64 kind,.int .u64 key,.int .u32 ck,.slice da dn dc] 85)=W:=⟨_,rfl⟩
  have HQ:Hid (eu W w.heap.size #[.int .i64 tk,.int .i64 kind,.int .u64 key,.int .u32 ck,.slice da dn dc] 85):=zh (hW▸eu.new w #[.int .i64 tk,.int .i64 kind,.int .u64 key,.int .u32 ck,.slice da dn dc] 85);have hb0:=(aj w.heap.size w).alloc (ag _) (.cells #[.int .i64 tk,.int .i64 kind,.int .u64 key,.int .u32 ck,.slice da dn dc] 85);rw[hW] at hb0;have HB:=zh hb0;clear hb0
  go_enter func108,ntmps108
  go_upto_region 1 with fail;clear hW;have c1:=HQ.o.cell (i:=1) rfl;have c4:=HQ.o.cell (i:=4) rfl;go_wp2_with fail;refine (H0.o _).mono ?_;rintro e w1 ⟨rfl,rfl⟩;rw[show ((eY 0:Nat):Int)=24 by decide];go_wp2_with fail;go_ret;exact ⟨by rw[HE.o];rfl,HB.o⟩
 have e1:(kind==2)=false:=by simpa using hk
 have HE:Hid ((if kind=2 then (24:Int) else (eY dn:Int))=(eY dn:Int)):=zh (ai hk);have H0:=zh (fun W=>qm dn W hd);generalize (if kind=2 then (24:Int) else (eY dn:Int))=R at *;clear hk;obtain ⟨W,hW⟩:∃ W,w.alloc (.cells #[.int .i64 tk,.int .i64 kind,.int .u64 key,.int .u32 ck,.slice da dn dc] 85)=W:=⟨_,rfl⟩
 have HQ:Hid (eu W w.heap.size #[.int .i64 tk,.int .i64 kind,.int .u64 key,.int .u32 ck,.slice da dn dc] 85):=zh (hW▸eu.new w #[.int .i64 tk,.int .i64 kind,.int .u64 key,.int .u32 ck,.slice da dn dc] 85);have hb0:=(aj w.heap.size w).alloc (ag _) (.cells #[.int .i64 tk,.int .i64 kind,.int .u64 key,.int .u32 ck,.slice da dn dc] 85);rw[hW] at hb0;have HB:=zh hb0;clear hb0
 go_enter func108,ntmps108
 go_upto_region 1 with fail;clear hW;have c1:=HQ.o.cell (i:=1) rfl;have c4:=HQ.o.cell (i:=4) rfl;go_wp2_with fail;refine (H0.o _).mono ?_;rintro e w1 ⟨rfl,rfl⟩;go_wp2_with fail;go_ret;exact ⟨by rw[HE.o];rfl,HB.o⟩
def zG2 (b:Nat) (t:fk) (ga:Option Addr) (gn gc:Nat) (L:List GP) (eH:Bool) (kv nv rv:Value) (iC:Int) (tk kind key ck:Int) (da:Option Addr) (dn dc:Nat) (w:World) (hb:Ac w b t.id t.lim t.ro ga gn gc eH kv nv rv iC) (hg:fB w (.slice ga gn gc) L) (rh:ey L=t.ep) (hl:fF 1000 t.ep) (hd:dn<=1000000) (q:Rq) (hq:q.data.length=dn) :
  Calls prog 144 #[.pointer (some ⟨b,0,none⟩),Eg tk kind key ck (.slice da dn dc)] w fun e w'=>e=.returned (.int .i64 (yI t q))/\Below w.heap.size w w':=by
 have Dv:=zh (fun W (hb:Below w.heap.size w W)=>zNd t ga gn gc L W (hg.bb hb) rh hl (dn:Int))
 by_cases h1:4096<dn
 ·have e1:(4096:Int)<(dn:Int):=by omega
  have HE:=zh (show yI t q=8 by unfold yI;rw[hq,ah h1]);generalize yI t q=R at *;clear hq;obtain ⟨W,hW⟩:∃ W,w.alloc (.cells #[.int .i64 tk,.int .i64 kind,.int .u64 key,.int .u32 ck,.slice da dn dc] 85)=W:=⟨_,rfl⟩
  have HQ:Hid (eu W w.heap.size #[.int .i64 tk,.int .i64 kind,.int .u64 key,.int .u32 ck,.slice da dn dc] 85):=zh (hW▸eu.new w #[.int .i64 tk,.int .i64 kind,.int .u64 key,.int .u32 ck,.slice da dn dc] 85);have hb0:=(aj w.heap.size w).alloc (ag _) (.cells #[.int .i64 tk,.int .i64 kind,.int .u64 key,.int .u32 ck,.slice da dn dc] 85);rw[hW] at hb0;have HB:=zh hb0;clear hb0
  go_enter func144,ntmps144
  go_upto_region 1 with fail;clear hW;have c4:=HQ.o.cell (i:=4) rfl;go_wp2_with fail;go_ret;exact ⟨by rw[HE.o];rfl,HB.o⟩
 have e1:¬ (4096:Int)<(dn:Int):=by omega
 have HE:=zh (show yI t q=if xA t (dn:Int)=true then 0 else 9 by unfold yI;rw[hq,ai h1]);generalize yI t q=R at *;clear hq;obtain ⟨W,hW⟩:∃ W,w.alloc (.cells #[.int .i64 tk,.int .i64 kind,.int .u64 key,.int .u32 ck,.slice da dn dc] 85)=W:=⟨_,rfl⟩
 have HQ:Hid (eu W w.heap.size #[.int .i64 tk,.int .i64 kind,.int .u64 key,.int .u32 ck,.slice da dn dc] 85):=zh (hW▸eu.new w #[.int .i64 tk,.int .i64 kind,.int .u64 key,.int .u32 ck,.slice da dn dc] 85);have hb0:=(aj w.heap.size w).alloc (ag _) (.cells #[.int .i64 tk,.int .i64 kind,.int .u64 key,.int .u32 ck,.slice da dn dc] 85);rw[hW] at hb0;have HB:=zh hb0;have HP:=zh (hb.bb hb0);clear hb0 hb
 go_enter func144,ntmps144
 go_upto_region 1 with fail;clear hW;have c4:=HQ.o.cell (i:=4) rfl;go_upto_region 3 with fail;have Dw:=zh (HQ.o.bb (zV (aj _ W)));have Aq:=zh (HP.o.bb (zV (aj _ W)));have KR:=zh (zV HB.o);have c4':=Dw.o.cell (i:=4) rfl;have p0:=Aq.o.cell (i:=0) rfl;have p1:=Aq.o.cell (i:=1) rfl;have p2:=Aq.o.cell (i:=2) rfl;have p3:=Aq.o.cell (i:=3) rfl;clear c4;refine wp_region_still_tail 7 (by kernel_rfl) (by kernel_rfl) ?_;simp only[dP,List.take_zero,List.drop_succ_cons,List.drop_zero];change wpStill prog _ (World.drew _) _ _ _
 repeat still_step
 refine wpStill_nil ?_;change wpList _ _ _ _ _ (World.drew _);generalize World.drew W=W1 at *;go_wp2_with fail;refine (Dv.o W1 KR.o).mono ?_;rintro e w1 ⟨rfl,hb⟩;have eN:=zh (zA KR.o hb);clear hb p0 p1 p2 p3 c4' Dv Dw Aq
 cases hf:xA t (dn:Int)
 ·rw[hf] at HE;clear hf;go_wp2_with fail;go_ret;exact ⟨by rw[HE.o];rfl,eN.o⟩
 rw[hf] at HE;clear hf;go_wp2_with fail;go_ret;exact ⟨by rw[HE.o];rfl,eN.o⟩
def zMx (t:TypeId) (B:Nat):lZ:=⟨fun v w=>∃ b,v=.pointer (some ⟨b,0,none⟩)/\B<=b/\eu w b #[.int .i64 0,.int .i64 0,.int .i64 0,.int .u64 0,.int .u32 0,.int .i64 0,.int .i64 0] t,fun _ _ _ hb ⟨b,h1,h2,h3⟩=>⟨b,h1,h2,h3.bb hb⟩⟩
def zGE (b:Nat) (t:fk) (ga:Option Addr) (gn gc:Nat) (L:List GP) (eH:Bool) (kv nv rv:Value) (iC:Int) (tk kind key ck:Int) (da:Option Addr) (dn dc:Nat) (w:World) (hb:Ac w b t.id t.lim t.ro ga gn gc eH kv nv rv iC) (hg:fB w (.slice ga gn gc) L) (rh:ey L=t.ep) (hl:fF 1000 t.ep) (q:Rq) (hk:(q.key:Int)=key) (hc:(q.ck:Int)=ck) :
  Calls prog 149 #[.pointer (some ⟨b,0,none⟩),Eg tk kind key ck (.slice da dn dc)] w fun e w'=>e=.returned (.int .i64 (xE t q))/\Below w.heap.size w w':=by
 have AH:=zh (fun W (hb:Below w.heap.size w W)=>zMt t ga gn gc L W (hg.bb hb) rh hl key);have HE:=zh (show xE t q=if (yF t key).isEmpty=false/\((yF t key).headD yv).it.ck=ck then 0 else 6 by unfold xE;rw[hk,hc]);generalize xE t q=R at *;generalize (yF t key).headD yv=Y at *;obtain ⟨fo,hfo⟩:∃ fo,(!(yF t key).isEmpty)=fo:=⟨_,rfl⟩
 rw[hfo] at AH;have oB:=zh (show R=if fo=true/\Y.it.ck=ck then 0 else 6 by rw[HE.o,<- hfo];simp);clear hfo HE hk hc;obtain ⟨yg,ym,yr,⟨yk,yc,yo,yz⟩,ya⟩:=Y;dsimp only[Dt,KL] at AH oB;obtain ⟨W,hW⟩:∃ W,w.alloc (.cells #[.int .i64 tk,.int .i64 kind,.int .u64 key,.int .u32 ck,.slice da dn dc] 85)=W:=⟨_,rfl⟩
 have HQ:Hid (eu W w.heap.size #[.int .i64 tk,.int .i64 kind,.int .u64 key,.int .u32 ck,.slice da dn dc] 85):=zh (hW▸eu.new w #[.int .i64 tk,.int .i64 kind,.int .u64 key,.int .u32 ck,.slice da dn dc] 85);have hb0:=(aj w.heap.size w).alloc (ag _) (.cells #[.int .i64 tk,.int .i64 kind,.int .u64 key,.int .u32 ck,.slice da dn dc] 85);rw[hW] at hb0;have HB:=zh hb0;have HP:=zh (hb.bb hb0);clear hb0 hb hg rh hl
 go_enter func149,ntmps149
 go_upto_region 1 with fail;clear hW
 go_cut [5,6] (fun vb ve wx=>∃ b,vb=.pointer (some ⟨b,0,none⟩)/\ve=.bool fo/\Hid (eu wx b ([(0,.int .i64 yg),(1,.int .i64 ym),(2,.int .i64 yr),(3,.int .u64 yk),(4,.int .u32 yc),(5,.int .i64 yo),(6,.int .i64 yz)].foldl (fun cs p=>cs.setIfInBounds p.1 p.2) #[.int .i64 0,.int .i64 0,.int .i64 0,.int .u64 0,.int .u32 0,.int .i64 0,.int .i64 0]) 51)/\Hid (Below W.heap.size W wx))
 case first =>
  refine yQ [eT (.pointer (some ⟨b,0,none⟩)),eT (.pointer (some ⟨b,0,none⟩)),eT (.pointer (some ⟨b,0,none⟩)),eT (zQ t.id t.lim t.ro ga gn gc),eT (.pointer (some ⟨w.heap.size,2,none⟩)),eT (.int .u64 key),eT (.tuple #[.agg #[.int .i64 yg,.int .i64 ym,.int .i64 yr,.int .u64 yk,.int .u32 yc,.int .i64 yo,.int .i64 yz],.bool fo]),eT (.tuple #[.agg #[.int .i64 yg,.int .i64 ym,.int .i64 yr,.int .u64 yk,.int .u32 yc,.int .i64 yo,.int .i64 yz],.bool fo]),eT (.agg #[.int .i64 yg,.int .i64 ym,.int .i64 yr,.int .u64 yk,.int .u32 yc,.int .i64 yo,.int .i64 yz]),eT (.bool fo),zMx 51 W.heap.size] [10] 27 9 (by kernel_rfl) (by kernel_rfl) rfl rfl (by decide) (by rfl) (by kernel_rfl) (fun f=>by simp[fU,zW,Act.put];exact rfl) ?_ ?_ ?_
  ·refine ⟨?_,?_,?_,?_,?_,?_,?_,?_,?_,?_,?_,trivial⟩
   ·intro f w1 hb hd;clear hd;dsimp only;go_wp2_with fail;exact pS rfl (by simp)
   ·intro f w1 hb hd;have d0:f 0=_:=hd 0 (by kernel_rfl);clear hd;dsimp only;rw[d0];go_wp2_with fail;exact pS rfl (by simp)
   ·intro f w1 hb hd;have d1:f 1=_:=hd 1 (by kernel_rfl);clear hd;dsimp only;rw[d1];go_wp2_with fail;exact pS rfl (by simp)
   ·intro f w1 hb hd;have d2:f 2=_:=hd 2 (by kernel_rfl);clear hd;dsimp only;rw[d2];have hx:=HP.o.bb hb;have q0:=hx.cell (i:=0) rfl;have q1:=hx.cell (i:=1) rfl;have q2:=hx.cell (i:=2) rfl;have q3:=hx.cell (i:=3) rfl;clear hx;go_wp2_with fail;exact pS rfl (by simp)
   ·intro f w1 hb hd;clear hd;dsimp only;go_wp2_with fail;exact pS rfl (by simp)
   ·intro f w1 hb hd;have d4:f 4=_:=hd 4 (by kernel_rfl);clear hd;dsimp only;rw[d4];have q2:=(HQ.o.bb hb).cell (i:=2) rfl;go_wp2_with fail;exact pS rfl (by simp)
   ·intro f w1 hb hd;have d3:f 3=_:=hd 3 (by kernel_rfl);have d5:f 5=_:=hd 5 (by kernel_rfl);clear hd;dsimp only;rw[d3];rw[d5];go_wp2_with fail;refine (AH.o w1 (zA HB.o hb)).mono ?_;rintro e w9 ⟨rfl,gy⟩;go_wp2_with fail;exact pT rfl (by simp) gy
   ·intro f w1 hb hd;have d6:f 6=_:=hd 6 (by kernel_rfl);clear hd;dsimp only;rw[d6];go_wp2_with fail;exact pS rfl (by simp)
   ·intro f w1 hb hd;have d7:f 7=_:=hd 7 (by kernel_rfl);clear hd;dsimp only;rw[d7];go_wp2_with fail;exact pS rfl (by simp)
   ·intro f w1 hb hd;have d7:f 7=_:=hd 7 (by kernel_rfl);clear hd;dsimp only;rw[d7];go_wp2_with fail;exact pS rfl (by simp)
   intro f w1 hb hd;clear hd;dsimp only;have pJ:=hb.size;have Ar:=eu.new w1 #[.int .i64 0,.int .i64 0,.int .i64 0,.int .u64 0,.int .u32 0,.int .i64 0,.int .i64 0] 51;go_wp2_with fail;exact ⟨rfl,(aj _ _).alloc (ag _) _,fun t ht=>by injection ht with ht;subst ht;exact ⟨⟨_,rfl,pJ,Ar⟩,fun _=>⟨ag _,by simp[blk]⟩⟩⟩
  ·intro f w5 hb hd iX;clear iX;have d8:f 8=_:=hd 8 (by simp);have d9:f 9=_:=hd 9 (by simp);obtain ⟨GD,d10,Dx,gC⟩:=hd 10 (show 10<11 by decide)
   try dsimp only
   rw[d8,d9,d10];clear hd d8 d9 d10;have fH:=zh (zC (B:=W.heap.size) (b:=GD) Dx [(0,.int .i64 yg),(1,.int .i64 ym),(2,.int .i64 yr),(3,.int .u64 yk),(4,.int .u32 yc),(5,.int .i64 yo),(6,.int .i64 yz)] hb);have HX:=zh (eu.sets [(0,.int .i64 yg),(1,.int .i64 ym),(2,.int .i64 yr),(3,.int .u64 yk),(4,.int .u32 yc),(5,.int .i64 yo),(6,.int .i64 yz)] gC);have H0:=zh gC;have x0:=gC.cell (i:=0) rfl;have x1:=gC.cell (i:=1) rfl;have x2:=gC.cell (i:=2) rfl;have x3:=gC.cell (i:=3) rfl;have x4:=gC.cell (i:=4) rfl;have x5:=gC.cell (i:=5) rfl;have x6:=gC.cell (i:=6) rfl;have xf:=gC.frozen;clear gC hb;change wpList _ _ _ (_::_::[]) _ _;go_wp2_with fail;go_meet
   case rel=>exact ⟨GD,rfl,rfl,HX,fH⟩
  intro f w5 hb hd iX;clear iX;have d7:f 7=_:=hd 7 (by simp) (by decide);have d8:f 8=_:=hd 8 (by simp) (by decide);obtain ⟨GD,d10,Dx,gC⟩:=hd 10 (show 10<11 by decide) (by decide)
  try dsimp only
  rw[d7,d8,d10];clear hd d7 d8 d10;have fH:=zh (zC (B:=W.heap.size) (b:=GD) Dx [(0,.int .i64 yg),(1,.int .i64 ym),(2,.int .i64 yr),(3,.int .u64 yk),(4,.int .u32 yc),(5,.int .i64 yo),(6,.int .i64 yz)] hb);have HX:=zh (eu.sets [(0,.int .i64 yg),(1,.int .i64 ym),(2,.int .i64 yr),(3,.int .u64 yk),(4,.int .u32 yc),(5,.int .i64 yo),(6,.int .i64 yz)] gC);have H0:=zh gC;have x0:=gC.cell (i:=0) rfl;have x1:=gC.cell (i:=1) rfl;have x2:=gC.cell (i:=2) rfl;have x3:=gC.cell (i:=3) rfl;have x4:=gC.cell (i:=4) rfl;have x5:=gC.cell (i:=5) rfl;have x6:=gC.cell (i:=6) rfl;have xf:=gC.frozen;clear gC hb;change wpList _ _ _ (_::_::_::[]) _ _;go_wp2_with fail;go_meet
  case rel=>exact ⟨GD,rfl,rfl,HX,fH⟩
 obtain ⟨bx,rfl,rfl,HX,fH⟩:=hcut;generalize wc=W2 at *;have x4:=HX.o.cell (i:=4) (u:=.int .u32 yc) (by simp);have c3:=(HQ.o.bb fH.o).cell (i:=3) rfl;have eN:=zh (zA HB.o fH.o);clear HX fH HQ HP HB AH
 cases fo with
 |false =>
  have HR:=zh (show R=6 by rw[oB.o];exact ai fun h=>by cases h.1);go_wp2_with fail;go_ret;exact ⟨by rw[HR.o];rfl,eN.o⟩
 |true =>
  by_cases hcc:yc=ck
  ·have HR:=zh (show R=0 by rw[oB.o];exact ah ⟨rfl,hcc⟩);subst hcc;go_wp2_with fail;go_ret;exact ⟨by rw[HR.o];rfl,eN.o⟩
  have HR:=zh (show R=6 by rw[oB.o];exact ai fun h=>hcc h.2);have e1:(yc != ck)=true:=by simpa using hcc
  clear hcc;go_wp2_with fail;go_ret;exact ⟨by rw[HR.o];rfl,eN.o⟩
def zFN (b:Nat) (t:fk) (ga:Option Addr) (gn gc:Nat) (L:List GP) (eH:Bool) (kv nv rv:Value) (iC:Int) (key:Int) (w:World) (hb:Ac w b t.id t.lim t.ro ga gn gc eH kv nv rv iC) (hg:fB w (.slice ga gn gc) L) (rh:ey L=t.ep) (hl:fF 1000 t.ep) :
  Calls prog 151 #[.pointer (some ⟨b,0,none⟩),.int .u64 key] w fun e w'=>e=.returned (.bool (wO t key))/\Below w.heap.size w w':=by
 have AH:=zh (zMt t ga gn gc L w hg rh hl key);have HE:Hid (wO t key=(!(yF t key).isEmpty&&decide (((yF t key).headD yv).mode=1))):=zh (rfl);generalize wO t key=R at *;generalize (yF t key).headD yv=Y at *;generalize (!(yF t key).isEmpty)=fo at *;obtain ⟨yg,ym,yr,⟨yk,yc,yo,yz⟩,ya⟩:=Y;dsimp only[Dt,KL] at AH HE;have p0:=hb.cell (i:=0) rfl;have p1:=hb.cell (i:=1) rfl;have p2:=hb.cell (i:=2) rfl;have p3:=hb.cell (i:=3) rfl;clear hb hg rh hl
 go_enter func151,ntmps151
 go_wp2_with fail;refine AH.o.mono ?_;rintro e w1 ⟨rfl,hb⟩;have HB:=zh hb;clear hb AH p0 p1 p2 p3;go_upto_region 2 with fail;change Code.wp _ _ _ _ (.alloc _ (.cells _ 51));have HX:=zh (eu.new w1 #[.int .i64 yg,.int .i64 ym,.int .i64 yr,.int .u64 yk,.int .u32 yc,.int .i64 yo,.int .i64 yz] 51);replace HB:=zh (zA HB.o ((aj w1.heap.size w1).alloc (ag _) (.cells #[.int .i64 yg,.int .i64 ym,.int .i64 yr,.int .u64 yk,.int .u32 yc,.int .i64 yo,.int .i64 yz] 51)));generalize w1.alloc (.cells #[.int .i64 yg,.int .i64 ym,.int .i64 yr,.int .u64 yk,.int .u32 yc,.int .i64 yo,.int .i64 yz] 51)=w2 at *;generalize w1.heap.size=bx at *;have x1:=HX.o.cell (i:=1) rfl
 cases fo with
 |false =>
  have HR:=zh (show R=false by rw[HE.o];rfl);go_wp2_with fail;go_ret;exact ⟨by rw[HR.o];rfl,HB.o⟩
 |true =>
  by_cases hm:ym=1
  ·have HR:=zh (show R=true by rw[HE.o,hm];rfl);subst hm;go_wp2_with fail;go_ret;exact ⟨by rw[HR.o];rfl,HB.o⟩
  have HR:=zh (show R=false by rw[HE.o];simpa using hm);have e1:(ym==1)=false:=by simpa using hm
  clear hm;go_wp2_with fail;go_ret;exact ⟨by rw[HR.o];rfl,HB.o⟩
end Go.Proofs.YtcgfilmmokmdjaaGreat
