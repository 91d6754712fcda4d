import Derived.Test.YtcgfilmmokmdjaaGreatQAQ
import Derived.Test.YtcgfilmmokmdjaaGreatQAP
set_option linter.all false
set_option maxRecDepth 100000
set_option maxHeartbeats 32000000
namespace Go.Proofs.YtcgfilmmokmdjaaGreat
open Go.RowKit
theorem ZT (s:eX) (a:Option Addr) (n c:Nat) (L:List GP) (W:World) (hr:fD W (.slice a n c) L) (hg:ep L=s.dY) (hl:fu 1000 s.dY) (key:Int) :
  Calls Tryz.prog 16 #[zO s.id s.lim s.ro a n c,.int .u64 key] W fun e w'=>e=.returned (.tuple #[BZ ((yA s key).headD yU),.bool (!(yA s key).isEmpty)])∧Below W.heap.size W w':=by
 have h:=zGr s.id s.lim s.ro a n c L W hr (xu (hg▸hl) (by decide)) key;obtain ⟨i,l,r,g⟩:=s;dsimp only at hg h ⊢;subst hg;exact h
theorem zL6 (s:eX) (a:Option Addr) (n c:Nat) (L:List GP) (W:World) (hr:fD W (.slice a n c) L) (hg:ep L=s.dY) (hl:fu 1000 s.dY) (m:Int) :
  Calls Tryz.prog 36 #[zO s.id s.lim s.ro a n c,.int .i64 m] W fun e w'=>e=.returned (.bool (yY s m))∧Below W.heap.size W w':=by
 have h:=zG9 s.id s.lim s.ro a n c L W hr (xu (hg▸hl) (by decide)) m;obtain ⟨i,l,r,g⟩:=s;dsimp only at hg h ⊢;subst hg;exact h
theorem zHy (tk kind key ck:Int) (da:Option Addr) (dn dc:Nat) (w:World) (hd:dn≤1000000):Calls Tryz.prog 108 #[CP tk kind key ck (.slice da dn dc)] w fun e w'=>e=.returned (.int .i64 (if kind=2 then 24 else (eN dn:Int)))∧Below w.heap.size w w':=by
 by_cases hk:kind=2
 ·
  have e1:(kind==2)=true:=by simpa using hk
  have HE:=zh (show (if kind=2 then (24:Int) else (eN dn:Int))=24 from ah hk);have H0:=zh (fun W=>qA 0 W (by decide));generalize (if kind=2 then (24:Int) else (eN dn:Int))=R at *;clear hk;obtain ⟨W,hW⟩:∃ W,w.alloc (.cells #[.int .i64 tk,.int .i64 kind,.int .u64 key,.int .u32 ck,.slice da dn dc] 85)=W:=⟨_,rfl⟩
  have HQ:=zh (show dZ W w.heap.size #[.int .i64 tk,.int .i64 kind,.int .u64 key,.int .u32 ck,.slice da dn dc] 85 from hW▸dZ.new w #[.int .i64 tk,.int .i64 kind,.int .u64 key,.int .u32 ck,.slice da dn dc] 85);have hb0:=(aj w.heap.size w).alloc (ag _) (.cells #[.int .i64 tk,.int .i64 kind,.int .u64 key,.int .u32 ck,.slice da dn dc] 85);rw[hW] at hb0;have HB:=zh hb0;clear hb0
  go_enter Tryz.func108,Tryz.ntmps108
  go_upto_region 1 with fail;clear hW;have c1:=HQ.out.cell (i:=1) rfl;have c4:=HQ.out.cell (i:=4) rfl;go_wp2_with fail;refine (H0.out _).mono ?_;rintro e w1 ⟨rfl,rfl⟩;rw[show ((eN 0:Nat):Int)=24 by decide];go_wp2_with fail;go_ret;exact ⟨by rw[HE.out];rfl,HB.out⟩
 have e1:(kind==2)=false:=by simpa using hk
 have HE:=zh (show (if kind=2 then (24:Int) else (eN dn:Int))=(eN dn:Int) from ai hk);have H0:=zh (fun W=>qA dn W hd);generalize (if kind=2 then (24:Int) else (eN dn:Int))=R at *;clear hk;obtain ⟨W,hW⟩:∃ W,w.alloc (.cells #[.int .i64 tk,.int .i64 kind,.int .u64 key,.int .u32 ck,.slice da dn dc] 85)=W:=⟨_,rfl⟩
 have HQ:=zh (show dZ W w.heap.size #[.int .i64 tk,.int .i64 kind,.int .u64 key,.int .u32 ck,.slice da dn dc] 85 from hW▸dZ.new w #[.int .i64 tk,.int .i64 kind,.int .u64 key,.int .u32 ck,.slice da dn dc] 85);have hb0:=(aj w.heap.size w).alloc (ag _) (.cells #[.int .i64 tk,.int .i64 kind,.int .u64 key,.int .u32 ck,.slice da dn dc] 85);rw[hW] at hb0;have HB:=zh hb0;clear hb0
 go_enter Tryz.func108,Tryz.ntmps108
 go_upto_region 1 with fail;clear hW;have c1:=HQ.out.cell (i:=1) rfl;have c4:=HQ.out.cell (i:=4) rfl;go_wp2_with fail;refine (H0.out _).mono ?_;rintro e w1 ⟨rfl,rfl⟩;go_wp2_with fail;go_ret;exact ⟨by rw[HE.out];rfl,HB.out⟩
theorem zFh (b:Nat) (t:eX) (ga:Option Addr) (gn gc:Nat) (L:List GP) (ey:Bool) (kv nv rv:Value) (gQ:Int) (tk kind key ck:Int) (da:Option Addr) (dn dc:Nat) (w:World) (hb:rH w b t.id t.lim t.ro ga gn gc ey kv nv rv gQ) (hg:fD w (.slice ga gn gc) L) (oK:ep L=t.dY) (hl:fu 1000 t.dY) (hd:dn≤1000000) (q:Rq) (hq:q.data.length=dn) :
  Calls Tryz.prog 144 #[.pointer (some ⟨b,0,none⟩),CP tk kind key ck (.slice da dn dc)] w fun e w'=>e=.returned (.int .i64 (yD t q))∧Below w.heap.size w w':=by
 have B5:=zh (fun W (hb:Below w.heap.size w W)=>zL6 t ga gn gc L W (hg.below hb) oK hl (dn:Int))
 by_cases h1:4096<dn
 ·
  have e1:(4096:Int)<(dn:Int):=by omega
  have HE:=zh (show yD t q=8 by unfold yD;rw[hq,ah h1]);generalize yD t q=R at *;clear hq;obtain ⟨W,hW⟩:∃ W,w.alloc (.cells #[.int .i64 tk,.int .i64 kind,.int .u64 key,.int .u32 ck,.slice da dn dc] 85)=W:=⟨_,rfl⟩
  have HQ:=zh (show dZ W w.heap.size #[.int .i64 tk,.int .i64 kind,.int .u64 key,.int .u32 ck,.slice da dn dc] 85 from hW▸dZ.new w #[.int .i64 tk,.int .i64 kind,.int .u64 key,.int .u32 ck,.slice da dn dc] 85);have hb0:=(aj w.heap.size w).alloc (ag _) (.cells #[.int .i64 tk,.int .i64 kind,.int .u64 key,.int .u32 ck,.slice da dn dc] 85);rw[hW] at hb0;have HB:=zh hb0;clear hb0
  go_enter Tryz.func144,Tryz.ntmps144
  go_upto_region 1 with fail;clear hW;have c4:=HQ.out.cell (i:=4) rfl;go_wp2_with fail;go_ret;exact ⟨by rw[HE.out];rfl,HB.out⟩
 have e1:¬ (4096:Int)<(dn:Int):=by omega
 have HE:=zh (show yD t q=if yY t (dn:Int)=true then 0 else 9 by unfold yD;rw[hq,ai h1]);generalize yD t q=R at *;clear hq;obtain ⟨W,hW⟩:∃ W,w.alloc (.cells #[.int .i64 tk,.int .i64 kind,.int .u64 key,.int .u32 ck,.slice da dn dc] 85)=W:=⟨_,rfl⟩
 have HQ:=zh (show dZ W w.heap.size #[.int .i64 tk,.int .i64 kind,.int .u64 key,.int .u32 ck,.slice da dn dc] 85 from hW▸dZ.new w #[.int .i64 tk,.int .i64 kind,.int .u64 key,.int .u32 ck,.slice da dn dc] 85);have hb0:=(aj w.heap.size w).alloc (ag _) (.cells #[.int .i64 tk,.int .i64 kind,.int .u64 key,.int .u32 ck,.slice da dn dc] 85);rw[hW] at hb0;have HB:=zh hb0;have HP:=zh (hb.below hb0);clear hb0 hb
 go_enter Tryz.func144,Tryz.ntmps144
 go_upto_region 1 with fail;clear hW;have c4:=HQ.out.cell (i:=4) rfl;go_upto_region 3 with fail;have Bq:=zh (HQ.out.below (zi (aj _ W)));have rX:=zh (HP.out.below (zi (aj _ W)));have IK:=zh (zi HB.out);have c4':=Bq.out.cell (i:=4) rfl;have p0:=rX.out.cell (i:=0) rfl;have p1:=rX.out.cell (i:=1) rfl;have p2:=rX.out.cell (i:=2) rfl;have p3:=rX.out.cell (i:=3) rfl;clear c4;refine wp_region_still_tail 7 (by kernel_rfl) (by kernel_rfl) ?_;simp only[dK,List.take_zero,List.drop_succ_cons,List.drop_zero];change wpStill Tryz.prog _ (World.drew _) _ _ _
 repeat still_step
 refine wpStill_nil ?_;change wpList _ _ _ _ _ (World.drew _);generalize World.drew W=W1 at *;go_wp2_with fail;refine (B5.out W1 IK.out).mono ?_;rintro e w1 ⟨rfl,hb⟩;have eD:=zh (zA IK.out hb);clear hb p0 p1 p2 p3 c4' B5 Bq rX
 cases hf:yY t (dn:Int)
 ·
  rw[hf] at HE;clear hf;go_wp2_with fail;go_ret;exact ⟨by rw[HE.out];rfl,eD.out⟩
 rw[hf] at HE;clear hf;go_wp2_with fail;go_ret;exact ⟨by rw[HE.out];rfl,eD.out⟩
def ZU (t:TypeId) (B:Nat):mE:=⟨fun v w=>∃ b,v=.pointer (some ⟨b,0,none⟩)∧B≤b∧dZ w b #[.int .i64 0,.int .i64 0,.int .i64 0,.int .u64 0,.int .u32 0,.int .i64 0,.int .i64 0] t,fun _ _ _ hb ⟨b,h1,h2,h3⟩=>⟨b,h1,h2,h3.below hb⟩⟩
theorem zEt (b:Nat) (t:eX) (ga:Option Addr) (gn gc:Nat) (L:List GP) (ey:Bool) (kv nv rv:Value) (gQ:Int) (tk kind key ck:Int) (da:Option Addr) (dn dc:Nat) (w:World) (hb:rH w b t.id t.lim t.ro ga gn gc ey kv nv rv gQ) (hg:fD w (.slice ga gn gc) L) (oK:ep L=t.dY) (hl:fu 1000 t.dY) (q:Rq) (hk:(q.key:Int)=key) (hc:(q.ck:Int)=ck) :
  Calls Tryz.prog 149 #[.pointer (some ⟨b,0,none⟩),CP tk kind key ck (.slice da dn dc)] w fun e w'=>e=.returned (.int .i64 (yd t q))∧Below w.heap.size w w':=by
 have sj:=zh (fun W (hb:Below w.heap.size w W)=>ZT t ga gn gc L W (hg.below hb) oK hl key);have HE:=zh (show yd t q=if (yA t key).isEmpty=false∧((yA t key).headD yU).it.ck=ck then 0 else 6 by unfold yd;rw[hk,hc]);generalize yd t q=R at *;generalize (yA t key).headD yU=Y at *;obtain ⟨fo,hfo⟩:∃ fo,(!(yA t key).isEmpty)=fo:=⟨_,rfl⟩
 rw[hfo] at sj;have Bt:=zh (show R=if fo=true∧Y.it.ck=ck then 0 else 6 by rw[HE.out,← hfo];simp);clear hfo HE hk hc;obtain ⟨yg,ym,yr,⟨yk,yc,yo,yz⟩,ya⟩:=Y;dsimp only[BZ,IG] at sj Bt;obtain ⟨W,hW⟩:∃ W,w.alloc (.cells #[.int .i64 tk,.int .i64 kind,.int .u64 key,.int .u32 ck,.slice da dn dc] 85)=W:=⟨_,rfl⟩
 have HQ:=zh (show dZ W w.heap.size #[.int .i64 tk,.int .i64 kind,.int .u64 key,.int .u32 ck,.slice da dn dc] 85 from hW▸dZ.new w #[.int .i64 tk,.int .i64 kind,.int .u64 key,.int .u32 ck,.slice da dn dc] 85);have hb0:=(aj w.heap.size w).alloc (ag _) (.cells #[.int .i64 tk,.int .i64 kind,.int .u64 key,.int .u32 ck,.slice da dn dc] 85);rw[hW] at hb0;have HB:=zh hb0;have HP:=zh (hb.below hb0);clear hb0 hb hg oK hl
 go_enter Tryz.func149,Tryz.ntmps149
 go_upto_region 1 with fail;clear hW
 go_cut [5,6] (fun vb ve wx=>∃ b,vb=.pointer (some ⟨b,0,none⟩)∧ve=.bool fo∧Hid (dZ wx b ([(0,.int .i64 yg),(1,.int .i64 ym),(2,.int .i64 yr),(3,.int .u64 yk),(4,.int .u32 yc),(5,.int .i64 yo),(6,.int .i64 yz)].foldl (fun cs p=>cs.setIfInBounds p.1 p.2) #[.int .i64 0,.int .i64 0,.int .i64 0,.int .u64 0,.int .u32 0,.int .i64 0,.int .i64 0]) 51)∧Hid (Below W.heap.size W wx))
 case first =>
  refine ye [eR (.pointer (some ⟨b,0,none⟩)),eR (.pointer (some ⟨b,0,none⟩)),eR (.pointer (some ⟨b,0,none⟩)),eR (zO t.id t.lim t.ro ga gn gc),eR (.pointer (some ⟨w.heap.size,2,none⟩)),eR (.int .u64 key),eR (.tuple #[.agg #[.int .i64 yg,.int .i64 ym,.int .i64 yr,.int .u64 yk,.int .u32 yc,.int .i64 yo,.int .i64 yz],.bool fo]),eR (.tuple #[.agg #[.int .i64 yg,.int .i64 ym,.int .i64 yr,.int .u64 yk,.int .u32 yc,.int .i64 yo,.int .i64 yz],.bool fo]),eR (.agg #[.int .i64 yg,.int .i64 ym,.int .i64 yr,.int .u64 yk,.int .u32 yc,.int .i64 yo,.int .i64 yz]),eR (.bool fo),ZU 51 W.heap.size] [10] 27 9 (by kernel_rfl) (by kernel_rfl) rfl rfl (by decide) (by rfl) (by kernel_rfl) (fun f=>by simp[fF,zT,Act.put];exact rfl) ?_ ?_ ?_
  ·
   refine ⟨?_,?_,?_,?_,?_,?_,?_,?_,?_,?_,?_,trivial⟩
   ·
    intro f w1 hb hd;clear hd;dsimp only;go_wp2_with fail;exact pS rfl (by simp)
   ·
    intro f w1 hb hd;have d0:f 0=(.pointer (some ⟨b,0,none⟩)):=hd 0 (by kernel_rfl);clear hd;dsimp only;rw[d0];go_wp2_with fail;exact pS rfl (by simp)
   ·
    intro f w1 hb hd;have d1:f 1=(.pointer (some ⟨b,0,none⟩)):=hd 1 (by kernel_rfl);clear hd;dsimp only;rw[d1];go_wp2_with fail;exact pS rfl (by simp)
   ·
    intro f w1 hb hd;have d2:f 2=(.pointer (some ⟨b,0,none⟩)):=hd 2 (by kernel_rfl);clear hd;dsimp only;rw[d2];have hx:=HP.out.below hb;have q0:=hx.cell (i:=0) rfl;have q1:=hx.cell (i:=1) rfl;have q2:=hx.cell (i:=2) rfl;have q3:=hx.cell (i:=3) rfl;clear hx;go_wp2_with fail;exact pS rfl (by simp)
   ·
    intro f w1 hb hd;clear hd;dsimp only;go_wp2_with fail;exact pS rfl (by simp)
   ·
    intro f w1 hb hd;have d4:f 4=(.pointer (some ⟨w.heap.size,2,none⟩)):=hd 4 (by kernel_rfl);clear hd;dsimp only;rw[d4];have q2:=(HQ.out.below hb).cell (i:=2) rfl;go_wp2_with fail;exact pS rfl (by simp)
   ·
    intro f w1 hb hd;have d3:f 3=(zO t.id t.lim t.ro ga gn gc):=hd 3 (by kernel_rfl);have d5:f 5=(.int .u64 key):=hd 5 (by kernel_rfl);clear hd;dsimp only;rw[d3];rw[d5];go_wp2_with fail;refine (sj.out w1 (zA HB.out hb)).mono ?_;rintro e w9 ⟨rfl,gI⟩;go_wp2_with fail;exact pT rfl (by simp) gI
   ·
    intro f w1 hb hd;have d6:f 6=(.tuple #[.agg #[.int .i64 yg,.int .i64 ym,.int .i64 yr,.int .u64 yk,.int .u32 yc,.int .i64 yo,.int .i64 yz],.bool fo]):=hd 6 (by kernel_rfl);clear hd;dsimp only;rw[d6];go_wp2_with fail;exact pS rfl (by simp)
   ·
    intro f w1 hb hd;have d7:f 7=(.tuple #[.agg #[.int .i64 yg,.int .i64 ym,.int .i64 yr,.int .u64 yk,.int .u32 yc,.int .i64 yo,.int .i64 yz],.bool fo]):=hd 7 (by kernel_rfl);clear hd;dsimp only;rw[d7];go_wp2_with fail;exact pS rfl (by simp)
   ·
    intro f w1 hb hd;have d7:f 7=(.tuple #[.agg #[.int .i64 yg,.int .i64 ym,.int .i64 yr,.int .u64 yk,.int .u32 yc,.int .i64 yo,.int .i64 yz],.bool fo]):=hd 7 (by kernel_rfl);clear hd;dsimp only;rw[d7];go_wp2_with fail;exact pS rfl (by simp)
   intro f w1 hb hd;clear hd;dsimp only;have rR:=hb.size;have Du:=dZ.new w1 #[.int .i64 0,.int .i64 0,.int .i64 0,.int .u64 0,.int .u32 0,.int .i64 0,.int .i64 0] 51;go_wp2_with fail;exact ⟨rfl,(aj _ _).alloc (ag _) _,fun t ht=>by injection ht with ht;subst ht;exact ⟨⟨_,rfl,rR,Du⟩,fun _=>⟨ag _,by simp[blk]⟩⟩⟩
  ·
   intro f w5 hb hd jw;clear jw;have d8:f 8=(.agg #[.int .i64 yg,.int .i64 ym,.int .i64 yr,.int .u64 yk,.int .u32 yc,.int .i64 yo,.int .i64 yz]):=hd 8 (show 8<11 by decide);have d9:f 9=(.bool fo):=hd 9 (show 9<11 by decide);obtain ⟨EU,d10,B8,fP⟩:=show ∃ b,f 10=.pointer (some ⟨b,0,none⟩)∧W.heap.size≤b∧dZ w5 b #[.int .i64 0,.int .i64 0,.int .i64 0,.int .u64 0,.int .u32 0,.int .i64 0,.int .i64 0] 51 from hd 10 (show 10<11 by decide)
   try dsimp only
   rw[d8,d9,d10];clear hd d8 d9 d10;have fV:=zh (zD (B:=W.heap.size) (b:=EU) B8 [(0,.int .i64 yg),(1,.int .i64 ym),(2,.int .i64 yr),(3,.int .u64 yk),(4,.int .u32 yc),(5,.int .i64 yo),(6,.int .i64 yz)] hb);have HX:=zh (dZ.sets [(0,.int .i64 yg),(1,.int .i64 ym),(2,.int .i64 yr),(3,.int .u64 yk),(4,.int .u32 yc),(5,.int .i64 yo),(6,.int .i64 yz)] fP);have H0:=zh fP;have x0:=fP.cell (i:=0) rfl;have x1:=fP.cell (i:=1) rfl;have x2:=fP.cell (i:=2) rfl;have x3:=fP.cell (i:=3) rfl;have x4:=fP.cell (i:=4) rfl;have x5:=fP.cell (i:=5) rfl;have x6:=fP.cell (i:=6) rfl;have xf:=fP.frozen;clear fP hb;generalize f 0=rI,f 1=rJ,f 2=pY,f 3=pZ,f 4=p_,f 5=q_,f 6=rK,f 7=B9;clear f;change wpList _ _ _ (_::_::[]) _ _;go_wp2_with fail;go_meet
   case rel=>exact ⟨EU,rfl,rfl,HX,fV⟩
  intro f w5 hb hd jw;clear jw;have d7:f 7=(.tuple #[.agg #[.int .i64 yg,.int .i64 ym,.int .i64 yr,.int .u64 yk,.int .u32 yc,.int .i64 yo,.int .i64 yz],.bool fo]):=hd 7 (show 7<11 by decide) (show 7≠9 by decide);have d8:f 8=(.agg #[.int .i64 yg,.int .i64 ym,.int .i64 yr,.int .u64 yk,.int .u32 yc,.int .i64 yo,.int .i64 yz]):=hd 8 (show 8<11 by decide) (show 8≠9 by decide);obtain ⟨EU,d10,B8,fP⟩:=show ∃ b,f 10=.pointer (some ⟨b,0,none⟩)∧W.heap.size≤b∧dZ w5 b #[.int .i64 0,.int .i64 0,.int .i64 0,.int .u64 0,.int .u32 0,.int .i64 0,.int .i64 0] 51 from hd 10 (show 10<11 by decide) (show 10≠9 by decide)
  try dsimp only
  rw[d7,d8,d10];clear hd d7 d8 d10;have fV:=zh (zD (B:=W.heap.size) (b:=EU) B8 [(0,.int .i64 yg),(1,.int .i64 ym),(2,.int .i64 yr),(3,.int .u64 yk),(4,.int .u32 yc),(5,.int .i64 yo),(6,.int .i64 yz)] hb);have HX:=zh (dZ.sets [(0,.int .i64 yg),(1,.int .i64 ym),(2,.int .i64 yr),(3,.int .u64 yk),(4,.int .u32 yc),(5,.int .i64 yo),(6,.int .i64 yz)] fP);have H0:=zh fP;have x0:=fP.cell (i:=0) rfl;have x1:=fP.cell (i:=1) rfl;have x2:=fP.cell (i:=2) rfl;have x3:=fP.cell (i:=3) rfl;have x4:=fP.cell (i:=4) rfl;have x5:=fP.cell (i:=5) rfl;have x6:=fP.cell (i:=6) rfl;have xf:=fP.frozen;clear fP hb;generalize f 0=rI,f 1=rJ,f 2=pY,f 3=pZ,f 4=p_,f 5=q_,f 6=rK,f 9=CQ;clear f;change wpList _ _ _ (_::_::_::[]) _ _;go_wp2_with fail;go_meet
  case rel=>exact ⟨EU,rfl,rfl,HX,fV⟩
 obtain ⟨bx,rfl,rfl,HX,fV⟩:=hcut;generalize wc=W2 at *;have x4:=HX.out.cell (i:=4) (u:=.int .u32 yc) (by simp);have c3:=(HQ.out.below fV.out).cell (i:=3) rfl;have eD:=zh (zA HB.out fV.out);clear HX fV HQ HP HB sj
 cases fo with
 |false =>
  have HR:=zh (show R=6 by rw[Bt.out];exact ai fun h=>by cases h.1);go_wp2_with fail;go_ret;exact ⟨by rw[HR.out];rfl,eD.out⟩
 |true =>
  by_cases hcc:yc=ck
  ·
   have HR:=zh (show R=0 by rw[Bt.out];exact ah ⟨rfl,hcc⟩);subst hcc;go_wp2_with fail;go_ret;exact ⟨by rw[HR.out];rfl,eD.out⟩
  have HR:=zh (show R=6 by rw[Bt.out];exact ai fun h=>hcc h.2);have e1:(yc != ck)=true:=by simpa using hcc
  clear hcc;go_wp2_with fail;go_ret;exact ⟨by rw[HR.out];rfl,eD.out⟩
theorem ZV (b:Nat) (t:eX) (ga:Option Addr) (gn gc:Nat) (L:List GP) (ey:Bool) (kv nv rv:Value) (gQ:Int) (key:Int) (w:World) (hb:rH w b t.id t.lim t.ro ga gn gc ey kv nv rv gQ) (hg:fD w (.slice ga gn gc) L) (oK:ep L=t.dY) (hl:fu 1000 t.dY) :
  Calls Tryz.prog 151 #[.pointer (some ⟨b,0,none⟩),.int .u64 key] w fun e w'=>e=.returned (.bool (wC t key))∧Below w.heap.size w w':=by
 have sj:=zh (ZT t ga gn gc L w hg oK hl key);have HE:=zh (show wC t key=(!(yA t key).isEmpty&&decide (((yA t key).headD yU).mode=1)) from rfl);generalize wC t key=R at *;generalize (yA t key).headD yU=Y at *;generalize (!(yA t key).isEmpty)=fo at *;obtain ⟨yg,ym,yr,⟨yk,yc,yo,yz⟩,ya⟩:=Y;dsimp only[BZ,IG] at sj HE;have p0:=hb.cell (i:=0) rfl;have p1:=hb.cell (i:=1) rfl;have p2:=hb.cell (i:=2) rfl;have p3:=hb.cell (i:=3) rfl;clear hb hg oK hl
 go_enter Tryz.func151,Tryz.ntmps151
 go_wp2_with fail;refine sj.out.mono ?_;rintro e w1 ⟨rfl,hb⟩;have HB:=zh hb;clear hb sj p0 p1 p2 p3;go_upto_region 2 with fail;change Code.wp _ _ _ _ (w1.alloc (.cells #[.int .i64 yg,.int .i64 ym,.int .i64 yr,.int .u64 yk,.int .u32 yc,.int .i64 yo,.int .i64 yz] 51));have HX:=zh (dZ.new w1 #[.int .i64 yg,.int .i64 ym,.int .i64 yr,.int .u64 yk,.int .u32 yc,.int .i64 yo,.int .i64 yz] 51);replace HB:=zh (zA HB.out ((aj w1.heap.size w1).alloc (ag _) (.cells #[.int .i64 yg,.int .i64 ym,.int .i64 yr,.int .u64 yk,.int .u32 yc,.int .i64 yo,.int .i64 yz] 51)));generalize w1.alloc (.cells #[.int .i64 yg,.int .i64 ym,.int .i64 yr,.int .u64 yk,.int .u32 yc,.int .i64 yo,.int .i64 yz] 51)=w2 at *;generalize w1.heap.size=bx at *;have x1:=HX.out.cell (i:=1) rfl
 cases fo with
 |false =>
  have HR:=zh (show R=false by rw[HE.out];rfl);go_wp2_with fail;go_ret;exact ⟨by rw[HR.out];rfl,HB.out⟩
 |true =>
  by_cases hm:ym=1
  ·
   have HR:=zh (show R=true by rw[HE.out,hm];rfl);subst hm;go_wp2_with fail;go_ret;exact ⟨by rw[HR.out];rfl,HB.out⟩
  have HR:=zh (show R=false by rw[HE.out];simpa using hm);have e1:(ym==1)=false:=by simpa using hm
  clear hm;go_wp2_with fail;go_ret;exact ⟨by rw[HR.out];rfl,HB.out⟩
end Go.Proofs.YtcgfilmmokmdjaaGreat
