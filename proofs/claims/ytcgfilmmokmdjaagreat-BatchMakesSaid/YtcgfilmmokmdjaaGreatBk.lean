import Derived.Test.YtcgfilmmokmdjaaGreatQAS
import Derived.Test.YtcgfilmmokmdjaaGreatQAM
import Derived.Test.YtcgfilmmokmdjaaGreatQAO
set_option linter.all false
set_option maxRecDepth 100000
set_option maxHeartbeats 32000000
namespace Go.Proofs.YtcgfilmmokmdjaaGreat
open Go.RowKit
theorem zLe (s:eX) (a:Option Addr) (n c:Nat) (L:List GP) (W:World) (hr:fD W (.slice a n c) L) (hg:ep L=s.dY) (hl:fu 1000 s.dY) (key:Int) :
  Calls Tryz.prog 181 #[zO s.id s.lim s.ro a n c,.int .u64 key] W fun e w'=>∃ v',e=.returned v'∧gF w' W.heap.size v' (zS s key)∧Below W.heap.size W w':=by
 have h:=zFG s.id s.lim s.ro a n c L W hr (xu (hg▸hl) (by decide)) key;obtain ⟨i,l,r,g⟩:=s;dsimp only at hg h ⊢;subst hg;exact h
theorem gF.atB {w:World} {B:Nat} {a:Option Addr} {n cap:Nat} {l:List Int} (h:gF w B (.slice a n cap) l) {j:Nat} (hj:j<n):∃ b off,a=some ⟨b,off,none⟩∧w.cell? ⟨b,off+j,none⟩=some (.int .i64 (nR l j)):=by
 have hr:iE tV w _ l:=tu h;obtain ⟨a',cap',e,h2,h3,_,h5⟩:=iE.shape hr 0;injection e with e1 e2 e3;subst e1 e2 e3;obtain ⟨b,off,e,hc⟩:=h5 (by omega);exact ⟨b,off,e,hc j hj⟩
noncomputable def zx (P:fB) (key:Int) (l:List Int) (k:Nat):fB:=(l.take k).foldl (yK key) P
theorem wZ (P:fB) (key:Int) (l:List Int) (k:Nat) (h:k<l.length):zx P key l (k+1)=yK key (zx P key l k) (nR l k):=by
 unfold zx nR;rw[cV,ax,aB h,dN]
 rfl
theorem zGF (s:eX) (g:Gn):(yV s g).1.dY.length≤s.dY.length:=by
 by_cases hc:(yV s g).2=0
 ·
  rw[P3 hc];show (tH s.dY g).length≤_;rw[zJJ];exact ag _
 have e:(yV s g).1=xh:=by
  unfold yV at hc ⊢
  split
  ·
   rename_i h1;rw[ah h1] at hc
   split
   ·
    rename_i h2;rw[ah h2] at hc
    split
    ·
     rename_i h3;rw[ah h3] at hc;exact absurd rfl hc
    rfl
   rfl
  rfl
 rw[e];exact aq _
theorem zDb (s:eX) (num:Int) (keys:List Int):(xW s num keys).1.dY.length≤s.dY.length:=by
 unfold xW
 split
 ·
  split
  ·
   exact zGF _ _
  exact aq _
 exact aq _
theorem zA4 {P:fB} {key:Int} {l:List Int}:∀ k,k≤l.length→(zx P key l k).t.dY.length≤P.t.dY.length
 |0,_=>ag _
 |k+1,h=>by
  rw[wZ P key l k (by omega)];exact ak (zDb _ _ _) (zA4 k (by omega))
theorem tW {P:fB} {key:Int} {l:List Int} {M:Nat} (hl:fu 800 P.t.dY) (hk:ou M P.eu) (hn:∀ x∈l,1≤x∧x≤8):∀ k,k≤l.length →
  fu 800 (zx P key l k).t.dY∧ou (M+k) (zx P key l k).eu∧(zx P key l k).needs=P.needs∧(zx P key l k).bytes=P.bytes∧(zx P key l k).ey=P.ey∧(zx P key l k).res=P.res
 |0,_=>⟨hl,hk,rfl,rfl,rfl,rfl⟩
 |k+1,h=>by
  obtain ⟨h1,h2,h3,h4,h5,h6⟩:=tW (P:=P) (key:=key) hl hk hn k (by omega);rw[wZ P key l k (by omega)];exact ⟨zBZ h1,h2.ins (hn _ (ko (by omega))) key,h3,h4,h5,h6⟩
theorem zKu {W:World} {B g n cap k:Nat} {ks:List KP} (h:W.ownsRow B 89 2 (.slice (some ⟨g,0,none⟩) n cap) ks.length (ks.flatMap gU)) (hk:k<ks.length):W.cell? ⟨g,k*2+1,none⟩=some (gY ks k).2.1∧W.frozen? ⟨g,k*2+1,none⟩=false:=by
 have hn:n=ks.length:=by
  rcases h.2 with ⟨e,_⟩|⟨_,_,_,e,_⟩
  ·
   cases e
  injection e
 subst hn;have hf:=xw h (k*2+1);have hr:mY W (.slice (some ⟨g,0,none⟩) ks.length cap) ks:=⟨fun x _=>xK x,zk h⟩
 obtain ⟨b,off,e,_,hc⟩:=hr.at hk;injection e with e;injection e with e1 e2;subst e1 e2;rw[aI] at hc;exact ⟨hc,hf⟩
def Uw (B:Nat) (l:List Int):mE:=⟨fun v w=>∃ a c,v=.slice a l.length c∧gF w B (.slice a l.length c) l,fun _ _ _ hb ⟨a,c,h1,h2⟩=>⟨a,c,h1,zG h2 hb⟩⟩
def zMU (key:Int):mE:=⟨fun v w=>∃ j,v=.slice (some ⟨j,0,none⟩) 1 1∧lT w (.slice (some ⟨j,0,none⟩) 1 1) [key],fun _ _ _ hb ⟨j,h1,h2⟩=>⟨j,h1,iE.below h2 hb⟩⟩
def zMW (num key:Int):mE:=⟨fun v w=>∃ j,v=.agg #[.int .i64 num,.slice (some ⟨j,0,none⟩) 1 1]∧lT w (.slice (some ⟨j,0,none⟩) 1 1) [key],fun _ _ _ hb ⟨j,h1,h2⟩=>⟨j,h1,iE.below h2 hb⟩⟩
theorem zMB (i l:Int) (r:Bool) (ga:Option Addr) (gn gc:Nat) (ey:Bool) (kv nv rv:Value) (gQ:Int) (u:Value):(tY i l r ga gn gc ey kv nv rv gQ).setIfInBounds 6 u=tY i l r ga gn gc ey u nv rv gQ:=by
 simp only[aK,aM,aJ]
theorem zHY {w:World} {B b:Nat} {P:fB} {ga:Option Addr} {gn gc:Nat} {L:List GP} {kv:Value} {ks:List KP} {nv:Value} {es:List (Nd×Value)} {rv:Value} (hlo:B≤b) (hP:rH w b P.t.id P.t.lim P.t.ro ga gn gc P.ey kv nv rv P.bytes) (hR:mo w B P ga gn gc L kv ks nv es rv) (hl:fu 800 P.t.dY) (hB:B≤w.heap.size) (hel:es.length≤900) (hby:0≤P.bytes∧P.bytes≤1000000000) (M:Nat) (hM:M≤100000) (hsk:ou M P.eu) (rW:P.t.dY.length≤1000000) (q:Rq) (tk kind key ck:Int) (da:Option Addr) (dn dc:Nat) (rY:(q.key:Int)=key) (A6:(q.ck:Int)=ck) :
  Calls Tryz.prog 152 #[.pointer (some ⟨b,0,none⟩),CP tk kind key ck (.slice da dn dc)] w fun e w'=>e=.returned (.tuple #[])∧sH w' B b (we P q)∧fw B w w':=by
 have fU:b<w.heap.size:=hP.lt;have Lj:=zh (fun W (hb:Below w.heap.size w W)=>zLe P.t ga gn gc L W (hR.g.rd.below hb) hR.gg (hl.mono (by decide)) key);have AW:=zh (tW (P:=P) (key:=key) (l:=zS P.t key) (M:=M) hl hsk (fun x hx=>uq hx));have EB:=zh (fun k (h:k<(zS P.t key).length)=>wZ P key (zS P.t key) k h);have IB:=zh (show ∀ k,k<(zS P.t key).length→1≤nR (zS P.t key) k∧nR (zS P.t key) k≤8 from fun k hk=>uq (ko hk));have h8:=qg P.t key;have HGl:=zh (fun k (h:k≤(zS P.t key).length)=>ak (zA4 (P:=P) (key:=key) (l:=zS P.t key) k h) rW)
 have Bd:=zh (show we P q=if wC (zx P key (zS P.t key) (zS P.t key).length).t key=true then xH (zx P key (zS P.t key) (zS P.t key).length) (vj q) else zx P key (zS P.t key) (zS P.t key).length by
  have e:zx P key (zS P.t key) (zS P.t key).length=wK P key:=by unfold zx wK;rw[aS (ag _)]
  rw[e,← rY];rfl)
 have mZ:=zh (show sH w B b (zx P key (zS P.t key) 0) from ⟨ga,gn,gc,L,kv,ks,nv,es,rv,hlo,hP,hR⟩)
 have G7:=zh (show ∀ (es':List (Nd×Value)),es'.map (·.1)=P.needs→es'.length≤900 from fun es' h=>by
  have h1:=aO List.length (h.trans hR.nn.symm)
  rw[aH,aH] at h1
  omega)
 have CU:=zh hP;have Qr:=zh rY;have HQc:=zh A6;generalize we P q=D at *;clear hR hl hsk rY A6 hel rW
 go_enter Tryz.func152,Tryz.ntmps152
 go_upto_region 1 with fail;change Code.wp _ _ _ _ (w.alloc (.cells #[.int .i64 tk,.int .i64 kind,.int .u64 key,.int .u32 ck,.slice da dn dc] 85));have ew:=(aj w.heap.size w).alloc (ag _) (.cells #[.int .i64 tk,.int .i64 kind,.int .u64 key,.int .u32 ck,.slice da dn dc] 85);have HX:=zh (dZ.new w #[.int .i64 tk,.int .i64 kind,.int .u64 key,.int .u32 ck,.slice da dn dc] 85);have HB:=zh ew;replace mZ:=zh (mZ.out.below ew);replace CU:=zh (CU.out.below ew);clear ew;generalize w.alloc (.cells #[.int .i64 tk,.int .i64 kind,.int .u64 key,.int .u32 ck,.slice da dn dc] 85)=w1 at *;generalize nH:w.heap.size=b3 at *;have NK:=zh nH;have hz1:w.heap.size≤b3:=by omega
 have hz2:b3≤w.heap.size:=by omega
 clear nH
 go_cut [14,15,16] (fun vq vl vi wx=>∃ oa oc,vl=.int .i64 ((zS P.t key).length:Int)∧vi=.int .i64 0∧vq=.slice oa (zS P.t key).length oc∧Hid (gF wx w1.heap.size (.slice oa (zS P.t key).length oc) (zS P.t key))∧Hid (Below w1.heap.size w1 wx))
 case first =>
  refine wB [eR (.pointer (some ⟨b,0,none⟩)),eR (.pointer (some ⟨b,0,none⟩)),eR (.pointer (some ⟨b,0,none⟩)),eR (zO P.t.id P.t.lim P.t.ro ga gn gc),eR (.pointer (some ⟨b3,2,none⟩)),eR (.int .u64 key),Uw w1.heap.size (zS P.t key),eR (.int .i64 ((zS P.t key).length:Int)),eR (.int .i64 0)] 95 (by kernel_rfl) (by kernel_rfl) (by kernel_rfl) (by rfl) (by kernel_rfl) (fun f=>by simp[fF,zT,Act.put];exact rfl) ?_ ?_
  ·
   refine ⟨?_,?_,?_,?_,?_,?_,?_,?_,?_,trivial⟩
   ·
    intro f w2 hb hd;clear hd;dsimp only;go_wp2_with fail;exact pS rfl (by simp)
   ·
    intro f w2 hb hd;have d0:f 0=(.pointer (some ⟨b,0,none⟩)):=hd 0 (by kernel_rfl);clear hd;dsimp only;rw[d0];go_wp2_with fail;exact pS rfl (by simp)
   ·
    intro f w2 hb hd;have d1:f 1=(.pointer (some ⟨b,0,none⟩)):=hd 1 (by kernel_rfl);clear hd;dsimp only;rw[d1];go_wp2_with fail;exact pS rfl (by simp)
   ·
    intro f w2 hb hd;have d2:f 2=(.pointer (some ⟨b,0,none⟩)):=hd 2 (by kernel_rfl);clear hd;dsimp only;rw[d2];have hx:=CU.out.below hb;have q0:=hx.cell (i:=0) rfl;have q1:=hx.cell (i:=1) rfl;have q2:=hx.cell (i:=2) rfl;have q3:=hx.cell (i:=3) rfl;clear hx;go_wp2_with fail;exact pS rfl (by simp)
   ·
    intro f w2 hb hd;clear hd;dsimp only;go_wp2_with fail;exact pS rfl (by simp)
   ·
    intro f w2 hb hd;have d4:f 4=(.pointer (some ⟨b3,2,none⟩)):=hd 4 (by kernel_rfl);clear hd;dsimp only;rw[d4];have q2:=(HX.out.below hb).cell (i:=2) rfl;go_wp2_with fail;exact pS rfl (by simp)
   ·
    intro f w2 hb hd;have d3:f 3=(zO P.t.id P.t.lim P.t.ro ga gn gc):=hd 3 (by kernel_rfl);have d5:f 5=(.int .u64 key):=hd 5 (by kernel_rfl);clear hd;dsimp only;rw[d3];rw[d5];go_wp2_with fail;refine (Lj.out w2 (HB.out.trans (hb.mono (ak hz2 HB.out.size)))).mono ?_;rintro e w9 ⟨ov,rfl,ho,gI⟩;obtain ⟨qa,qc,rfl,_⟩:=zH ho;have HO:=zh (World.ownsRow.mono ho hb.size);clear ho;go_wp2_with fail;exact ⟨rfl,gI,fun t ht=>by injection ht with ht;subst ht;exact ⟨⟨qa,qc,rfl,HO.out⟩,fun h=>by simp at h⟩⟩
   ·
    intro f w2 hb hd;obtain ⟨a6,c6,d6,r6⟩:=show ∃ a c,f 6=.slice a (zS P.t key).length c∧gF w2 w1.heap.size (.slice a (zS P.t key).length c) (zS P.t key) from hd 6 (by kernel_rfl);clear hd;dsimp only;rw[d6];clear r6;go_wp2_with fail;exact pS rfl (by simp)
   intro f w2 hb hd;clear hd;dsimp only;go_wp2_with fail;exact pS rfl (by simp)
  intro f w8 hb hA;obtain ⟨oa,oc,e6,d6⟩:=show ∃ a c,f 6=.slice a (zS P.t key).length c∧gF w8 w1.heap.size (.slice a (zS P.t key).length c) (zS P.t key) from hA 6 (show 6<9 by decide);have d7:f 7=.int .i64 ((zS P.t key).length:Int):=hA 7 (show 7<9 by decide);have d8:f 8=.int .i64 0:=hA 8 (show 8<9 by decide);clear hA
  try dsimp only
  rw[e6,d7,d8];clear e6 d7 d8;have HO:=zh d6;have eD:=zh hb;clear d6 hb;generalize f 0=rI,f 1=rJ,f 2=pY,f 3=pZ,f 4=p_,f 5=q_;clear f;go_wp2_with fail;go_meet
  case rel=>exact ⟨oa,oc,rfl,rfl,rfl,HO,eD⟩
 obtain ⟨oa,oc,rfl,rfl,rfl,HO,fV⟩:=hcut;generalize wc=w2 at *;replace HX:=zh (HX.out.below fV.out);have ni:=zh (show sH w2 B b (zx P key (zS P.t key) 0) from mZ.out.below fV.out);have eM:=zh (show fw B w w2 from fw.of ((HB.out.trans (fV.out.mono (ak hz2 HB.out.size))).mono hz1) (ak hB hz2));have Ux:B≤w1.heap.size:=ak hB (ak hz2 HB.out.size);have PX:B≤w2.heap.size:=ak Ux fV.out.size;clear HB mZ CU Lj fV;generalize hOL:zS P.t key=OL at *;clear hOL;generalize Qs:OL.length=oN at *;have FO:=zh Qs;clear Qs;generalize Nr:w1.heap.size=Bo at *;clear Nr;go_wp2_with fail
 go_loopw [16] (fun iv W=>∃ k:Nat,iv=.int .i64 (k:Int)∧k≤oN∧Hid (sH W B b (zx P key OL k))∧Hid (gF W Bo (.slice oa oN oc) OL)∧Hid (dZ W b3 #[.int .i64 tk,.int .i64 kind,.int .u64 key,.int .u32 ck,.slice da dn dc] 85)∧Hid (fw B w W)) (fun iv _=>oN-(intOf iv).toNat)
 case atStart=>exact ⟨0,rfl,aq _,ni,HO,HX,eM⟩
 clear ni HO HX eM;obtain ⟨k,rfl,hk,Be,HO,HX,HB⟩:=hrel
 by_cases hlt:k<oN
 ·
  have j1:(k:Int)<(oN:Int):=by omega
  obtain ⟨G8,JY,Qt,Qu,Uy,KX⟩:=AW.out k hk;have Jb:=EB.out k hlt;have hnm:=IB.out k hlt;have rW:=HGl.out k hk;obtain ⟨og,off,e0,hcell⟩:=gF.atB HO.out hlt;subst e0;generalize nR OL k=num at *;have Jk:=zh Jb;clear Jb;generalize hQ:zx P key OL k=Q at *;clear hQ;obtain ⟨nP,nJ,nQ,L1,Cb,gM,Ad,iX,Ae,jy,iY,hR1⟩:=Be.out;have NT:nJ≤1000000:=by
   obtain ⟨_,_,e,_⟩:=hR1.g.rd.shape;injection e with _ e _;have h1:=aO List.length hR1.gg;rw[zn] at h1;omega
  have Af:=zh (fun W j (hb:Below wr.heap.size wr W) (hr:lT W (.slice (some ⟨j,0,none⟩) 1 1) [key])=>zHQ Q.t nP nJ nQ L1 W (hR1.g.rd.below hb) hR1.gg (G8.mono (by decide)) NT num (.slice (some ⟨j,0,none⟩) 1 1) [key] hr (by simp));have K8:=zh (show yK key Q num={Q with t:=(xW Q.t num [key]).1,eu:=kL Q.eu num key} from rfl);have pN:=zh JY;have pq:=zh iY;have gR:=zh hR1;generalize xW Q.t num [key]=C at *;obtain ⟨C,ce⟩:=C;dsimp only at K8;clear jy iY hR1 Be G8 JY Qt Qu Uy KX rW NT;go_upto_region 4 with fail;have AP:B≤wr.heap.size:=ak (ak hB hz2) (ak HB.out.size (ag _))
  go_cut [35] (fun vq wx=>vq=.pointer (some ⟨b,0,none⟩)∧∃ iI iJ gc' L',Hid (rH wx b C.id C.lim C.ro iI iJ gc' Q.ey Cb Ad Ae Q.bytes)∧Hid (mo wx B {Q with t:=C} iI iJ gc' L' Cb gM Ad iX Ae)∧Hid (gF wx Bo (.slice (some ⟨og,off,none⟩) oN oc) OL)∧Hid (dZ wx b3 #[.int .i64 tk,.int .i64 kind,.int .u64 key,.int .u32 ck,.slice da dn dc] 85)∧Hid (fw B w wx))
  case first =>
   refine ye [eR (.pointer (some ⟨b,0,none⟩)),eR (.pointer (some ⟨b,0,none⟩)),eR (.pointer (some ⟨b,0,none⟩)),eR (.pointer (some ⟨b,0,none⟩)),eR (zO Q.t.id Q.t.lim Q.t.ro nP nJ nQ),eR (.int .i64 num),eR (.pointer (some ⟨b3,2,none⟩)),eR (.int .u64 key),zMU key,zMW num key,Ql B (C,ce),Ql B (C,ce),Z7 B C,eR (.int .i64 ce),eR (.pointer (some ⟨b,0,none⟩)),eR (.pointer (some ⟨b,0,none⟩))] [] 95 13 (by kernel_rfl) (by kernel_rfl) rfl rfl (by decide) (by rfl) (by kernel_rfl) (fun f=>by simp[fF,zT,Act.put];exact rfl) ?_ ?_ ?_
   ·
    refine ⟨?_,?_,?_,?_,?_,?_,?_,?_,?_,?_,?_,?_,?_,?_,?_,?_,trivial⟩
    ·
     intro f w1 hb hd;clear hd;dsimp only;go_wp2_with fail;exact pS rfl (by simp)
    ·
     intro f w1 hb hd;clear hd;dsimp only;go_wp2_with fail;exact pS rfl (by simp)
    ·
     intro f w1 hb hd;have d1:f 1=(.pointer (some ⟨b,0,none⟩)):=hd 1 (by kernel_rfl);clear hd;dsimp only;rw[d1];go_wp2_with fail;exact pS rfl (by simp)
    ·
     intro f w1 hb hd;have d2:f 2=(.pointer (some ⟨b,0,none⟩)):=hd 2 (by kernel_rfl);clear hd;dsimp only;rw[d2];go_wp2_with fail;exact pS rfl (by simp)
    ·
     intro f w1 hb hd;have d3:f 3=(.pointer (some ⟨b,0,none⟩)):=hd 3 (by kernel_rfl);clear hd;dsimp only;rw[d3];have hx:=pq.out.below hb;have q0:=hx.cell (i:=0) rfl;have q1:=hx.cell (i:=1) rfl;have q2:=hx.cell (i:=2) rfl;have q3:=hx.cell (i:=3) rfl;clear hx;go_wp2_with fail;exact pS rfl (by simp)
    ·
     intro f w1 hb hd;clear hd;dsimp only;go_wp2_with fail;exact pS rfl (by simp)
    ·
     intro f w1 hb hd;clear hd;dsimp only;go_wp2_with fail;exact pS rfl (by simp)
    ·
     intro f w1 hb hd;have d6:f 6=(.pointer (some ⟨b3,2,none⟩)):=hd 6 (by kernel_rfl);clear hd;dsimp only;rw[d6];have q2:=(HX.out.below hb).cell (i:=2) rfl;go_wp2_with fail;exact pS rfl (by simp)
    ·
     intro f w1 hb hd;have d7:f 7=(.int .u64 key):=hd 7 (by kernel_rfl);clear hd;dsimp only;rw[d7];have Du:lT (w1.alloc (.cells #[.int .u64 key] 24)) (.slice (some ⟨w1.heap.size,0,none⟩) 1 1) [key]:=Rd.new w1 1 [.int .u64 key] 24 1 rfl (by decide);have EY:=zh Du;have rR:=hb.size;clear Du;go_wp2_with fail;exact ⟨rfl,(aj _ _).alloc (ag _) _,fun t ht=>by injection ht with ht;subst ht;exact ⟨⟨_,rfl,EY.out⟩,fun h=>by simp at h⟩⟩
    ·
     intro f w1 hb hd;have d5:f 5=(.int .i64 num):=hd 5 (by kernel_rfl);obtain ⟨j8,d8,r8⟩:=show ∃ j,f 8=.slice (some ⟨j,0,none⟩) 1 1∧lT w1 (.slice (some ⟨j,0,none⟩) 1 1) [key] from hd 8 (by kernel_rfl);clear hd;dsimp only;rw[d5];rw[d8];have EY:=zh r8;clear r8;go_wp2_with fail;exact ⟨rfl,aj _ _,fun t ht=>by injection ht with ht;subst ht;exact ⟨⟨j8,rfl,EY.out⟩,fun h=>by simp at h⟩⟩
    ·
     intro f w1 hb hd;have d4:f 4=(zO Q.t.id Q.t.lim Q.t.ro nP nJ nQ):=hd 4 (by kernel_rfl);obtain ⟨j9,d9,r9⟩:=show ∃ j,f 9=.agg #[.int .i64 num,.slice (some ⟨j,0,none⟩) 1 1]∧lT w1 (.slice (some ⟨j,0,none⟩) 1 1) [key] from hd 9 (by kernel_rfl);clear hd;dsimp only;rw[d4];rw[d9];have EY:=zh r9;clear r9;go_wp2_with fail;refine (Af.out w1 j9 hb EY.out).mono ?_;rintro e w9 ⟨⟨qa,qn,qc,qL,rfl,hown,hgn⟩,gI⟩;have oO:=zh (show gL w9 B (.slice qa qn qc) qL from gL.own hown);have jU:=zh hgn;clear hown hgn;go_wp2_with fail;exact ⟨rfl,gI,fun t ht=>by injection ht with ht;subst ht;exact ⟨⟨qa,qn,qc,qL,rfl,oO.out,jU.out⟩,fun h=>by simp at h⟩⟩
    ·
     intro f w1 hb hd;obtain ⟨K2,n10,c10,L10,d10,mW,g10⟩:=show ∃ a n c L,f 10=.tuple #[zO C.id C.lim C.ro a n c,.int .i64 ce]∧gL w1 B (.slice a n c) L∧ep L=C.dY from hd 10 (by kernel_rfl);clear hd;dsimp only;rw[d10];have oO:=zh mW;have jU:=zh g10;clear mW g10;go_wp2_with fail;exact ⟨rfl,aj _ _,fun t ht=>by injection ht with ht;subst ht;exact ⟨⟨K2,n10,c10,L10,rfl,oO.out,jU.out⟩,fun h=>by simp at h⟩⟩
    ·
     intro f w1 hb hd;obtain ⟨Uz,n11,c11,L11,d11,mC,g11⟩:=show ∃ a n c L,f 11=.tuple #[zO C.id C.lim C.ro a n c,.int .i64 ce]∧gL w1 B (.slice a n c) L∧ep L=C.dY from hd 11 (by kernel_rfl);clear hd;dsimp only;rw[d11];have oO:=zh mC;have jU:=zh g11;clear mC g11;go_wp2_with fail;exact ⟨rfl,aj _ _,fun t ht=>by injection ht with ht;subst ht;exact ⟨⟨Uz,n11,c11,L11,rfl,oO.out,jU.out⟩,fun h=>by simp at h⟩⟩
    ·
     intro f w1 hb hd;obtain ⟨Uz,n11,c11,L11,d11,mC,g11⟩:=show ∃ a n c L,f 11=.tuple #[zO C.id C.lim C.ro a n c,.int .i64 ce]∧gL w1 B (.slice a n c) L∧ep L=C.dY from hd 11 (by kernel_rfl);clear hd;dsimp only;rw[d11];clear mC g11;go_wp2_with fail;exact pS rfl (by simp)
    ·
     intro f w1 hb hd;have d0:f 0=(.pointer (some ⟨b,0,none⟩)):=hd 0 (by kernel_rfl);clear hd;dsimp only;rw[d0];go_wp2_with fail;exact pS rfl (by simp)
    intro f w1 hb hd;have d14:f 14=(.pointer (some ⟨b,0,none⟩)):=hd 14 (by kernel_rfl);clear hd;dsimp only;rw[d14];go_wp2_with fail;exact pS rfl (by simp)
   ·
    intro f w8 hb hd jw;clear jw;obtain ⟨a8,n8,c8,L8,d8,r8,g8⟩:=show ∃ a n c L,f 12=zO C.id C.lim C.ro a n c∧gL w8 B (.slice a n c) L∧ep L=C.dY from hd 12 (show 12<16 by decide);have d11:f 15=.pointer (some ⟨b,0,none⟩):=hd 15 (show 15<16 by decide)
    try dsimp only
    rw[d8,d11];clear hd d8 d11;have gp:=pq.out.below hb;have lg:=gw.pts (T:=145) hlo ⟨_,_,gp⟩ (zR C.id C.lim C.ro a8 n8 c8);have iW:=zh (show rH _ b C.id C.lim C.ro a8 n8 c8 Q.ey Cb Ad Ae Q.bytes from (by have h:=dZ.sets (zR C.id C.lim C.ro a8 n8 c8) gp;rw[kj] at h;exact h));have iq:=zh (((gR.out.below hb).slot C r8 g8).gK lg);have FO:=zh (show gF _ Bo _ OL from yp (zG HO.out hb) lg (by decide));have EW:=zh ((HX.out.below hb).eE (show b3≠b by omega) (zR C.id C.lim C.ro a8 n8 c8));have fV:=zh ((HB.out.step hb AP).pts hlo (zR C.id C.lim C.ro a8 n8 c8) ⟨_,_,gp⟩ (by decide));have q0:=gp.cell (i:=0) rfl;have q1:=gp.cell (i:=1) rfl;have q2:=gp.cell (i:=2) rfl;have q3:=gp.cell (i:=3) rfl;have qf:=gp.frozen;clear r8 g8 hb gp lg
    generalize f 0=rI,f 1=rJ,f 2=pY,f 3=pZ,f 4=p_,f 5=q_,f 6=rK,f 7=B9,f 8=Lf,f 9=CQ,f 10=o6,f 11=JZ,f 13=NU,f 14=J1;clear f;change wpList _ _ _ (_::[]) _ _;go_wp2_with fail;go_meet
    case rel=>exact ⟨rfl,a8,n8,c8,L8,iW,iq,FO,EW,fV⟩
   intro f w8 hb hd jw;clear jw;obtain ⟨a8,n8,c8,L8,d8,r8,g8⟩:=show ∃ a n c L,f 12=zO C.id C.lim C.ro a n c∧gL w8 B (.slice a n c) L∧ep L=C.dY from hd 12 (show 12<16 by decide) (show 12≠13 by decide);have d11:f 15=.pointer (some ⟨b,0,none⟩):=hd 15 (show 15<16 by decide) (show 15≠13 by decide);obtain ⟨a7,n7,c7,L7,d7,r7,g7⟩:=show ∃ a n c L,f 11=.tuple #[zO C.id C.lim C.ro a n c,.int .i64 ce]∧gL w8 B (.slice a n c) L∧ep L=C.dY from hd 11 (show 11<16 by decide) (show 11≠13 by decide);clear r7 g7
   try dsimp only
   rw[d7,d8,d11];clear hd d7 d8 d11;have gp:=pq.out.below hb;have lg:=gw.pts (T:=145) hlo ⟨_,_,gp⟩ (zR C.id C.lim C.ro a8 n8 c8);have iW:=zh (show rH _ b C.id C.lim C.ro a8 n8 c8 Q.ey Cb Ad Ae Q.bytes from (by have h:=dZ.sets (zR C.id C.lim C.ro a8 n8 c8) gp;rw[kj] at h;exact h));have iq:=zh (((gR.out.below hb).slot C r8 g8).gK lg);have FO:=zh (show gF _ Bo _ OL from yp (zG HO.out hb) lg (by decide));have EW:=zh ((HX.out.below hb).eE (show b3≠b by omega) (zR C.id C.lim C.ro a8 n8 c8));have fV:=zh ((HB.out.step hb AP).pts hlo (zR C.id C.lim C.ro a8 n8 c8) ⟨_,_,gp⟩ (by decide));have q0:=gp.cell (i:=0) rfl;have q1:=gp.cell (i:=1) rfl;have q2:=gp.cell (i:=2) rfl;have q3:=gp.cell (i:=3) rfl;have qf:=gp.frozen;clear r8 g8 hb gp lg
   generalize f 0=rI,f 1=rJ,f 2=pY,f 3=pZ,f 4=p_,f 5=q_,f 6=rK,f 7=B9,f 8=Lf,f 9=CQ,f 10=o6,f 13=NU,f 14=J1;clear f;change wpList _ _ _ (_::_::[]) _ _;go_wp2_with fail;go_meet
   case rel=>exact ⟨rfl,a8,n8,c8,L8,iW,iq,FO,EW,fV⟩
  obtain ⟨rfl,iI,iJ,gc',L',pq,gR,HO,HX,HB⟩:=hcut;generalize wc=v1 at *;clear Af;obtain ⟨ka,kc,G9,oD,hk2,_⟩:=zH gR.out.k.row;subst G9;have q6:=pq.out.cell (i:=6) rfl;have ri:iM gM=Q.eu:=gR.out.kk;have J2:gM.length≤8:=by have h:=(show ou _ Q.eu from pN.out).Uk;rw[← ri,xX] at h;exact h
  have rR:=zJz ka gM.length kc gM num v1 ⟨fun x _=>xK x,zk gR.out.k.row⟩ (by rw[ri];exact pN.out.JV) (by rw[ri];exact pN.out.num) hnm (by omega);have pd:gJ Q.eu num≤gM.length:=by have h:=Qn Q.eu num;rw[← ri,xX] at h;rw[← ri];exact h
  have FF:Q.eu.length=gM.length:=by rw[← ri,xX]
  rw[ri] at rR;have NV:=zJ2 (num:=num) (key:=key) ri rfl;have NW:=zKQ (num:=num) (key:=key) ri rfl;have IQ:∀ x∈iM gM,x.2.length≤200000:=fun x hx=>by have:=pN.out.len x (by rw[← ri];exact hx);omega
  have G_:(decide (gJ Q.eu num<gM.length)&&(yq Q.eu (gJ Q.eu num)).1==num)=decide (gJ Q.eu num<Q.eu.length∧(yq Q.eu (gJ Q.eu num)).1=num):=by
   rw[FF]
   by_cases e1:gJ Q.eu num<gM.length
   ·
    by_cases e2:(yq Q.eu (gJ Q.eu num)).1=num
    ·
     simp[e1,e2]
    simp[e1,e2]
   simp[e1]
  rw[G_] at rR;clear G_ FF;have Bu:=zh rR;have Dy:=zh NV;have Dz:=zh NW;have Lk:=zh IQ;have HKK:=zh ri;clear rR NV NW IQ ri;generalize hI0:gJ Q.eu num=I at *;clear hI0;obtain ⟨fo,hfo⟩:∃ fo,decide (I<Q.eu.length∧(yq Q.eu I).1=num)=fo:=⟨_,rfl⟩
  rw[hfo] at Bu;have IU:=zh hfo;clear hfo;go_wp2_with fail;refine Bu.out.mono ?_;rintro e v2 ⟨rfl,hb2⟩;replace pq:=zh (pq.out.below hb2);replace gR:=zh (gR.out.below hb2);replace HO:=zh (zG HO.out hb2);replace HX:=zh (HX.out.below hb2);have hB1:B≤v1.heap.size:=ak hB (ak hz2 HB.out.size);replace HB:=zh (HB.out.step hb2 hB1);clear hb2 q6 Bu;go_upto_if 47 with fail
  go_cut [6] (fun vi wx=>vi=.int .i64 (I:Int)∧∃ ka' m' kc' nO,Hid (rH wx b C.id C.lim C.ro iI iJ gc' Q.ey (.slice ka' m' kc') Ad Ae Q.bytes)∧Hid (mo wx B {Q with t:=C,eu:=iM nO} iI iJ gc' L' (.slice ka' m' kc') nO Ad iX Ae)∧I<nO.length∧nO.length≤9∧(gY nO I).1=num∧Hid ((iM nO).set I (num,(gY nO I).2.2++[key])=kL Q.eu num key)∧(gY nO I).2.2.length≤200000∧Hid (gF wx Bo (.slice (some ⟨og,off,none⟩) oN oc) OL)∧Hid (dZ wx b3 #[.int .i64 tk,.int .i64 kind,.int .u64 key,.int .u32 ck,.slice da dn dc] 85)∧Hid (fw B w wx))
  case first =>
   cases fo
   rotate_left
   ·
    have hh:=bn IU.out;obtain ⟨g1,g2,g3⟩:=Dy.out hh;have G3:=zh g3;have rD:=zh (gR.out.eu gR.out.k);have g4:(gY gM I).2.2.length≤200000:=Lk.out _ (by have:=vJ (l:=iM gM) (i:=I) (by rw[xX];exact g1);rw[NP] at this;exact this);clear g3 hh;go_wp2_with fail;go_meet
    case rel=>exact ⟨rfl,ka,gM.length,kc,gM,pq,rD,g1,by omega,g2,G3,g4,HO,HX,HB⟩
   have hh:=cS IU.out;obtain ⟨g1,g2,g3⟩:=Dz.out hh;have G3:=zh g3;have G2:=zh g2;clear g2 g3 hh;have hB2:B≤v2.heap.size:=ak hB (ak hz2 HB.out.size);have q6a:=pq.out.cell (i:=6) rfl;have ew:=(aj v2.heap.size v2).alloc (ag _) (.cells #[.int .i64 num,.slice none 0 0] 89);have J3:∀ k,(Value.slice ka gM.length kc).ownBlock=some k→k≠v2.heap.size:=fun k h e=>by have:=(gR.out.k.row.lt k h).2;omega
   have B5:=zh (zHN (.slice ka gM.length kc) (gM.flatMap gU) (gU (num,.slice none 0 0,[])) gM.length I v2.heap.size B (v2.alloc (.cells #[.int .i64 num,.slice none 0 0] 89)) (zG gR.out.k.row ew) (ak hB2 ew.size) pd (by omega) (fun u hu=>by
    obtain ⟨x,hx,hu⟩:=List.mem_flatMap.1 hu
    simp only[gU,aX,aY,aZ] at hu
    rcases hu with rfl|rfl
    ·
     rfl
    ·
     obtain ⟨_,_,e,_⟩:=zH (gR.out.k.keys x hx);rw[e];rfl) (fun u hu=>by
    simp only[gU,aX,aY,aZ] at hu
    rcases hu with rfl|rfl<;>rfl) rfl (dg v2 _) J3)
   replace pq:=zh (pq.out.below ew);replace gR:=zh (gR.out.below ew);replace HO:=zh (zG HO.out ew);replace HX:=zh (HX.out.below ew);replace HB:=zh (HB.out.step ew hB2);clear ew;have q6:=pq.out.cell (i:=6) rfl;go_wp2_with fail;refine B5.out.mono ?_;rintro e v3 ⟨kv3,rfl,ei,eL⟩;obtain ⟨CV,CW,UA,_,_,_⟩:=zH ei;subst UA;have DC:=fA.row gR.out.k.row eL (ag B);have Ll:=pq.out.eY DC (by decide);have UB:gw v3 (v3.setCell ⟨b,6,none⟩ (.slice CV (gM.length+1) CW)) B b 145:=gw.pts hlo ⟨_,_,Ll⟩ [(6,.slice CV (gM.length+1) CW)];have mH:=zh ((gR.out.Ut DC (gR.out.k.ins pd num ei eL)).gK UB);have lg:=zh (show gF _ Bo _ OL from yp (yN HO.out DC (by decide)) UB (by decide))
   have oV:=zh (show dZ (v3.setCell ⟨b,6,none⟩ (.slice CV (gM.length+1) CW)) b3 #[.int .i64 tk,.int .i64 kind,.int .u64 key,.int .u32 ck,.slice da dn dc] 85 from dZ.eE (c:=b) (by omega) [(6,.slice CV (gM.length+1) CW)] (HX.out.eY DC (by decide)));have od:=zh (show rH (v3.setCell ⟨b,6,none⟩ (.slice CV (gM.length+1) CW)) b C.id C.lim C.ro iI iJ gc' Q.ey (.slice CV (gM.length+1) CW) Ad Ae Q.bytes from (by have h:=Ll.set 6 (.slice CV (gM.length+1) CW);rw[zMB] at h;exact h));have i_:=zh ((HB.out.own gR.out.k.row (ak hB2 (by simp)) eL (by decide)).pts hlo [(6,.slice CV (gM.length+1) CW)] ⟨_,_,Ll⟩ (by decide));have c6:=Ll.cell (i:=6) rfl;have f6:=Ll.frozen 6;clear ei eL DC UB Ll B5 pq gR HO HX HB q6 q6a;go_wp2_with fail;go_meet
   case rel=>exact ⟨rfl,CV,gM.length+1,CW,_,od,mH,g1,by rw[aw,aV,ay,aP];omega,by rw[G2.out],(by rw[G2.out];exact G3),by rw[G2.out];exact aq _,lg,oV,i_⟩
  clear Dy Dz Lk HKK IU pq gR HO HX HB pd J2;obtain ⟨rfl,NY,m2,NZ,DF,pq,gR,hi2,Qv,mK,mA,hkl,HO,HX,HB⟩:=hcut;generalize wc=y2 at *;obtain ⟨g,e1,e2,hgB,rW,hcK⟩:=zLB gR.out.k hi2;subst e1 e2;have A7:=gR.out.k.keys _ (uK hi2);obtain ⟨wa,UC,N0,_,_,_⟩:=zH A7;have ew:=zi ((aj y2.heap.size y2).alloc (ag _) (.cells #[.int .u64 key] 24));have UD:B≤y2.heap.size:=ak hB (ak hz2 HB.out.size);have q6:=pq.out.cell (i:=6) rfl;have x2:=HX.out.cell (i:=2) rfl;have oh:=zh (pq.out.below ew);have jW:=zh (gR.out.below ew);have Qw:=zh (show gF _ Bo _ OL from zG HO.out ew);have Le:=zh (HX.out.below ew);have mj:=zh (HB.out.step ew UD);have Ha:=jW.out.k.keys _ (uK hi2);have EZ:=ew.size;have E2:=zh (fun W1 v2 ho hg hat=>jW.out.put (W1:=W1) hi2 mK (v2:=v2) (l2:=(gY DF I).2.2++[key]) ho hg hat)
  have J4:=zh (fun W1 (hO:fA _ W1 B 24)=>zKu (yN jW.out.k.row hO (by decide)) hi2);rw[N0] at Ha E2 J4 hcK;clear A7 ew;generalize Qf:(gY DF I).2.2=kl at *;clear Qf N0;have jO:=zh Ha;have FV:=zh (fun W (hg:(World.drew (y2.alloc (.cells #[.int .u64 key] 24))).grownBy W (Value.slice wa kl.length UC).ownBlock)=>fA.row Ha hg (ag B));clear Ha;have i1:(I:Int)<(DF.length:Int):=by omega
  have mD:=zh (fun W9 lJ lK (eG:World.ownsRow W9 B 24 1 (.slice lJ (kl.length+1) lK) (kl.length+1) (kl.map Eh++[.int .u64 key])) fp oW=>show sH (W9.setCell ⟨g,I*2+1,none⟩ (.slice lJ (kl.length+1) lK)) B b (zx P key OL (k+1))∧gF (W9.setCell ⟨g,I*2+1,none⟩ (.slice lJ (kl.length+1) lK)) Bo (.slice (some ⟨og,off,none⟩) oN oc) OL∧dZ (W9.setCell ⟨g,I*2+1,none⟩ (.slice lJ (kl.length+1) lK)) b3 #[.int .i64 tk,.int .i64 kind,.int .u64 key,.int .u32 ck,.slice da dn dc] 85∧fw B w (W9.setCell ⟨g,I*2+1,none⟩ (.slice lJ (kl.length+1) lK)) by
   obtain ⟨r1,r2,r3⟩:=E2.out W9 (.slice lJ (kl.length+1) lK) (by rw[aw,bD];exact eG) fp oW
   have r4:fA W9 (W9.setCell ⟨g,I*2+1,none⟩ (.slice lJ (kl.length+1) lK)) B 89:=.inr ⟨g,r3⟩
   refine ⟨?_,yN (yN Qw.out r2 (by decide)) r4 (by decide),(Le.out.eY r2 (by decide)).eY r4 (by decide),(mj.out.own jO.out (ak UD EZ) fp (by decide)).eY r4 (by decide) (zD (B:=B) (b:=g) hgB [(I*2+1,.slice lJ (kl.length+1) lK)] (zL mj.out.b jO.out (ak UD EZ) fp))⟩
   rw[Jk.out,K8.out,← mA.out]
   exact ⟨iI,iJ,gc',L',_,_,Ad,iX,Ae,hlo,(oh.out.eY r2 (by decide)).eY r4 (by decide),r1⟩)
  have UE:=oh.out.cell (i:=6) rfl;obtain ⟨UF,UG⟩:=J4.out _ (.inl (aj _ _));go_upto_region 8 with fail
  go_region_law ((refine qm (n:=kl.length) (by rfl) (.tmp 76) (.tmp 79) 87 (by rfl) TR B (by rfl) jO.out (ad:=⟨y2.heap.size,0,none⟩) (m:=1) (c:=1) (news:=[.int .u64 key]) (by rfl) (by rfl) (zDh y2 key _ rfl) (fun u hu=>by simp only[aX,aY,aZ] at hu;rw[hu];rfl) (by unfold maxLen;omega) (by omega) (by simp;omega) ?_;intro v9 w9 eG fp oW;obtain ⟨lJ,lK,hv2,_,_,_⟩:=zH eG;subst hv2;have oP:=FV.out _ fp;have gO:=oh.out.eY oP (by decide);have c6:=gO.cell (i:=6) rfl;obtain ⟨c9,f9⟩:=J4.out _ oP;clear gO oP))
  all_goals
   obtain ⟨z1,z2,z3,z4⟩:=mD.out _ _ _ eG fp oW;have Z1:=zh z1;have Z2:=zh z2;have Z3:=zh z3;have Z4:=zh z4;clear z1 z2 z3 z4 eG fp oW c6 c9 f9 UE UF UG q6 x2 hcK mD;go_wp2_with fail;exact ⟨⟨k+1,by go_num,by omega,Z1,Z2,Z3,Z4⟩,by simp[intOf];omega⟩
 have j1:¬ (k:Int)<(oN:Int):=by omega
 have hkn:k=oN:=by omega
 subst hkn;obtain ⟨G8,JY,Qt,Qu,Uy,KX⟩:=AW.out k (ag _);obtain ⟨nP,nJ,nQ,L1,Cb,gM,Ad,iX,Ae,jy,iY,hR1⟩:=Be.out;have hes:iX.length≤900:=G7.out iX (hR1.nn.trans Qt);have hDr:=Bd.out;generalize zx P key OL k=Q at *;have D7:=zh (ZV b Q.t nP nJ nQ L1 Q.ey Cb Ad Ae Q.bytes key wr iY hR1.g.rd hR1.gg (G8.mono (by decide)));have AP:B≤wr.heap.size:=ak hB (ak hz2 HB.out.size);have mG:=zh (fun W (hb:Below wr.heap.size wr W)=>Z8 hlo (iY.below hb) (hR1.below hb) (G8.mono (by decide)) (ak AP hb.size) (vj q) none 0 0 ⟨⟨rfl,none,0,rfl,ag _,aq _,fun _=>rfl,fun h=>(by cases h)⟩,fun g hg=>(by cases hg)⟩ rfl (by decide) (by omega) (by rw[Qu];exact hby));have CX:=zh (show ((vj q).key:Int)=key∧((vj q).ck:Int)=ck∧(vj q).del=true from ⟨Qr.out,HQc.out,rfl⟩);have rX:=zh (show sH wr B b Q from Be.out);obtain ⟨rC,hd2,DT⟩:=CX.out
 rw[rC,hd2,DT] at mG;clear rC hd2 DT CX G8 JY Qt Qu Uy KX jy iY hR1 hes Be AW EB IB HGl;have N1:=zh hDr;clear hDr Bd;have x2:=HX.out.cell (i:=2) rfl;have x3:=HX.out.cell (i:=3) rfl;generalize wC Q.t key=tb at *;go_wp2_with fail;refine D7.out.mono ?_;rintro e v5 ⟨rfl,hb5⟩;have gH:=zh (HB.out.step hb5 AP);have fJ:=zh (HX.out.below hb5);have UH:=zh (rX.out.below hb5);have UI:=zh (mG.out v5 hb5);clear hb5 D7 mG rX HX HB x2 x3
 cases tb
 ·
  go_wp2_with fail;go_end0;exact ⟨rfl,by rw[N1.out];exact UH.out,gH.out⟩
 have x2:=fJ.out.cell (i:=2) rfl;have x3:=fJ.out.cell (i:=3) rfl;go_wp2_with fail;refine UI.out.mono ?_;rintro e v6 ⟨rfl,E3,jr⟩;have Qx:=zh E3;have iZ:=zh (gH.out.trans jr);clear E3 jr;go_wp2_with fail;go_end0;exact ⟨rfl,by rw[N1.out];exact Qx.out,iZ.out⟩
end Go.Proofs.YtcgfilmmokmdjaaGreat
