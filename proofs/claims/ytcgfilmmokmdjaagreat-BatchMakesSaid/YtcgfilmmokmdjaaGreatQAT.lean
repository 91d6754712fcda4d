import Derived.Test.YtcgfilmmokmdjaaGreatBk
import Derived.Test.YtcgfilmmokmdjaaGreatQAC
import Derived.Deep.Onto
import Derived.Laws.EntriesVeiled
import Derived.Test.YtcgfilmmokmdjaaGreatQAH
set_option linter.all false
set_option maxRecDepth 100000
set_option maxHeartbeats 32000000
namespace Go.Proofs.YtcgfilmmokmdjaaGreat
open Go.RowKit
def zMb (B dn:Nat) (l:List UInt8):mE:=⟨fun v w=>∃ a c,v=.slice a dn c∧fR w B (.slice a dn c) l,fun _ _ _ hb ⟨a,c,h1,h2⟩=>⟨a,c,h1,g_.below h2 hb⟩⟩
def zMY (B:Nat) (key ck:Int) (dn:Nat) (l:List UInt8):mE:=⟨fun v w=>∃ a c,v=.agg #[.int .u64 key,.int .u32 ck,.bool false,.slice a dn c]∧fR w B (.slice a dn c) l,fun _ _ _ hb ⟨a,c,h1,h2⟩=>⟨a,c,h1,g_.below h2 hb⟩⟩
theorem zFd (v:Value) (l:List UInt8) (w:World) (h:rB w v l) (hs:l.length≤1000000) :
  Calls Tryz.prog 148 #[v] w fun e w'=>∃ v',e=.returned v'∧Pn w' w.heap.size v' l∧Below w.heap.size w w':=by
 obtain ⟨a,cap,rfl,h1,h2⟩:=h.fK;have Wv:∀ (w:World) (a:Option Addr) (n c n' c':Nat),(binOp .eql 54 (.slice a n c) (.slice none n' c')).run Tryz.prog w=.ok (.bool a.isNone) w:=fun w a n c n' c'=>Lib.run_eql_slice_nil w _ _ a n c n' c' Tryz.underlying54
 cases a with
 |none =>
  have h0:l=[]:=by
   obtain ⟨_,a',cap',e,_,_,h5,_⟩:=h;injection e with e1 e2 e3;have:=h5 e1.symm;exact List.length_eq_zero_iff.1 (by omega)
  subst h0;clear h
  go_enter Tryz.func148,Tryz.ntmps148
  go_wp2_with fail;go_ret;exact ⟨_,rfl,aT _ _ _ _,aj _ _⟩
 |some p =>
  have Hr:=zh h;generalize hn:l.length=n at *;have HL:=zh hn;clear h hn
  go_enter Tryz.func148,Tryz.ntmps148
  go_wp2_with (at_builtin;go_must (refine zP (n:=0) (m:=n) rfl (.tmp 5) (.tmp 6) 54 rfl Pm w.heap.size rfl (cI (size:=1) _ #[] 0 (ag _) (by decide) rfl) rfl (by have:=iE.alloc Hr.out (.cells #[] 5);unfold iE at this;rw[HL.out] at this;exact this) (Wi _) (by unfold maxLen;omega) (by omega) (by simp) ?_);intro v3 w3 ei eL hv3;clear hv3);have HB:=zh (zL ((aj w.heap.size w).alloc (ag _) _) (cI (e:=5) (size:=1) w #[] 0 (ag _) (by decide) rfl) (by simp) eL);have HO:=zh (zK2 ei (bQ _));clear ei eL;go_wp2_with fail;go_ret;exact ⟨_,rfl,HO.out,HB.out⟩
theorem zHf (tk kind key ck:Int) (da:Option Addr) (dn dc:Nat) (w:World):Calls Tryz.prog 145 #[CP tk kind key ck (.slice da dn dc)] w fun e w'=>e=.returned (.bool true)∧Below w.heap.size w w':=by
 have hb:=(aj w.heap.size w).alloc (ag _) (.cells #[.int .i64 tk,.int .i64 kind,.int .u64 key,.int .u32 ck,.slice da dn dc] 85);have HB:=zh hb;clear hb
 go_enter Tryz.func145,Tryz.ntmps145
 go_upto_region 1 with fail;change Code.wp _ _ _ _ (w.alloc (.cells #[.int .i64 tk,.int .i64 kind,.int .u64 key,.int .u32 ck,.slice da dn dc] 85));generalize w.alloc (.cells #[.int .i64 tk,.int .i64 kind,.int .u64 key,.int .u32 ck,.slice da dn dc] 85)=w1 at *;go_wp2_with fail;go_ret;exact ⟨rfl,HB.out⟩
theorem zGt (b cap:Nat) (t:eX) (ga:Option Addr) (gn gc:Nat) (L:List GP) (ey:Bool) (kv nv rv:Value) (gQ:Int) (tk kind key ck:Int) (da:Option Addr) (dn dc:Nat) (w:World) (hcap:dZ w cap #[.pointer (some ⟨b,0,none⟩)] 143) (hb:rH w b t.id t.lim t.ro ga gn gc ey kv nv rv gQ) (hg:fD w (.slice ga gn gc) L) (oK:ep L=t.dY) (hl:fu 1000 t.dY) :
  Calls Tryz.prog 150 #[CP tk kind key ck (.slice da dn dc),.pointer (some ⟨cap,0,none⟩)] w fun e w'=>e=.returned (.bool (wC t key))∧Below w.heap.size w w':=by
 have ew:=(aj w.heap.size w).alloc (ag _) (.cells #[.int .i64 tk,.int .i64 kind,.int .u64 key,.int .u32 ck,.slice da dn dc] 85);have HX:=zh (dZ.new w #[.int .i64 tk,.int .i64 kind,.int .u64 key,.int .u32 ck,.slice da dn dc] 85);have HC:=zh (hcap.below ew);have D7:=zh (ZV b t ga gn gc L ey kv nv rv gQ key (w.alloc (.cells #[.int .i64 tk,.int .i64 kind,.int .u64 key,.int .u32 ck,.slice da dn dc] 85)) (hb.below ew) (fD.below hg ew) oK hl);have HB:=zh ew;clear ew hb hg oK hl hcap;generalize wC t key=tb at *
 go_enter Tryz.func150,Tryz.ntmps150
 go_upto_region 1 with fail;change Code.wp _ _ _ _ (w.alloc (.cells #[.int .i64 tk,.int .i64 kind,.int .u64 key,.int .u32 ck,.slice da dn dc] 85));generalize w.alloc (.cells #[.int .i64 tk,.int .i64 kind,.int .u64 key,.int .u32 ck,.slice da dn dc] 85)=w1 at *;have x2:=HX.out.cell (i:=2) rfl;have c0:=HC.out.cell (i:=0) rfl;go_wp2_with fail;refine D7.out.mono ?_;rintro e w2 ⟨rfl,hb2⟩;have eM:=zh (zA HB.out hb2);clear hb2;go_wp2_with fail;go_ret;exact ⟨rfl,eM.out⟩
theorem zIj {w:World} {B b:Nat} {P:fB} {ga:Option Addr} {gn gc:Nat} {L:List GP} {kv:Value} {ks:List KP} {nv:Value} {es:List (Nd×Value)} {rv:Value} (hlo:B≤b) (hP:rH w b P.t.id P.t.lim P.t.ro ga gn gc P.ey kv nv rv P.bytes) (hR:mo w B P ga gn gc L kv ks nv es rv) (hl:fu 900 P.t.dY) (hB:B≤w.heap.size) (hel:es.length≤1000) (hby:0≤P.bytes∧P.bytes≤1000000000) (q:Rq) (cap:Nat) (tk kind key ck:Int) (da:Option Addr) (dn dc:Nat) (hcap:dZ w cap #[.pointer (some ⟨b,0,none⟩)] 143) (hd:rB w (.slice da dn dc) q.data) (il:dn≤100000) (rY:(q.key:Int)=key) (A6:(q.ck:Int)=ck) :
  Calls Tryz.prog 146 #[CP tk kind key ck (.slice da dn dc),.pointer (some ⟨cap,0,none⟩)] w fun e w'=>e=.returned (.tuple #[])∧sH w' B b (xH P (vX q))∧fw B w w':=by
 have nk:q.data.length=dn:=by obtain ⟨_,_,_,e,_⟩:=hd;injection e with _ e _;exact e.symm
 have ew:=(aj w.heap.size w).alloc (ag _) (.cells #[.int .i64 tk,.int .i64 kind,.int .u64 key,.int .u32 ck,.slice da dn dc] 85);have HX:=zh (dZ.new w #[.int .i64 tk,.int .i64 kind,.int .u64 key,.int .u32 ck,.slice da dn dc] 85);have HC:=zh (hcap.below ew);have HB:=zh ew;have HDn:=zh nk;have MN:=zh (fun W (hb:Below w.heap.size w W)=>zFd (.slice da dn dc) q.data W (iE.below hd hb) (by omega));have mG:=zh (fun W va vc (hb:Below w.heap.size w W) (hv:fR W B (.slice va dn vc) (vX q).data)=>Z8 hlo (hP.below hb) (hR.below hb) hl (ak hB hb.size) (vX q) va dn vc hv nk il hel hby);have CX:=zh (show ((vX q).key:Int)=key∧((vX q).ck:Int)=ck∧(vX q).del=false from ⟨rY,A6,rfl⟩);obtain ⟨rC,hd2,DT⟩:=CX.out;rw[rC,hd2,DT] at mG;clear ew hcap hd rC hd2 DT CX hP hR hl hel hby rY A6;generalize xH P (vX q)=D at *
 change Hid (∀ W va vc,Below w.heap.size w W→fR W B (.slice va dn vc) q.data→_) at mG;generalize q.data=ql at *;generalize fM:w.heap.size=bx at *;have eB:=zh fM;have Qy:bx≤w.heap.size:=by omega
 have hwc:w.heap.size≤bx:=by omega
 clear fM
 go_enter Tryz.func146,Tryz.ntmps146
 go_upto_region 1 with fail
 try rw[eB.out]
 generalize w.alloc (.cells #[.int .i64 tk,.int .i64 kind,.int .u64 key,.int .u32 ck,.slice da dn dc] 85)=w1 at *;refine xO [eR (.pointer (some ⟨b,0,none⟩)),eR (.pointer (some ⟨bx,2,none⟩)),eR (.int .u64 key),eR (.pointer (some ⟨bx,3,none⟩)),eR (.int .u32 ck),eR (.pointer (some ⟨bx,4,none⟩)),eR (.slice da dn dc),zMb B dn ql,zMY B key ck dn ql] [] 13 (by kernel_rfl) (by kernel_rfl) (by rfl) (by kernel_rfl) (fun f=>by simp[fF,zT,Act.put];exact rfl) ?_ ?_
 ·
  refine ⟨?_,?_,?_,?_,?_,?_,?_,?_,?_,trivial⟩
  ·
   intro f w2 hb hd;clear hd;dsimp only;have c0:=(HC.out.below hb).cell (i:=0) rfl;go_wp2_with fail;exact pS rfl (by simp)
  ·
   intro f w2 hb hd;clear hd;dsimp only;go_wp2_with fail;exact pS rfl (by simp)
  ·
   intro f w2 hb hd;have d1:f 1=(.pointer (some ⟨bx,2,none⟩)):=hd 1 (by kernel_rfl);clear hd;dsimp only;rw[d1];have q2:=(HX.out.below hb).cell (i:=2) rfl;go_wp2_with fail;exact pS rfl (by simp)
  ·
   intro f w2 hb hd;clear hd;dsimp only;go_wp2_with fail;exact pS rfl (by simp)
  ·
   intro f w2 hb hd;have d3:f 3=(.pointer (some ⟨bx,3,none⟩)):=hd 3 (by kernel_rfl);clear hd;dsimp only;rw[d3];have q3:=(HX.out.below hb).cell (i:=3) rfl;go_wp2_with fail;exact pS rfl (by simp)
  ·
   intro f w2 hb hd;clear hd;dsimp only;go_wp2_with fail;exact pS rfl (by simp)
  ·
   intro f w2 hb hd;have d5:f 5=(.pointer (some ⟨bx,4,none⟩)):=hd 5 (by kernel_rfl);clear hd;dsimp only;rw[d5];have q4:=(HX.out.below hb).cell (i:=4) rfl;go_wp2_with fail;exact pS rfl (by simp)
  ·
   intro f w2 hb hd;have d6:f 6=(.slice da dn dc):=hd 6 (by kernel_rfl);clear hd;dsimp only;rw[d6];go_wp2_with fail;refine (MN.out w2 (HB.out.trans (hb.mono (ak Qy HB.out.size)))).mono ?_;rintro e w9 ⟨ov,rfl,ho,gI⟩;have sP:∃ qa qc,ov=.slice qa dn qc:=by
    obtain ⟨qa,qc,hv,_⟩:=zH ho;exact ⟨qa,qc,by rw[hv,HDn.out]⟩
   obtain ⟨qa,qc,rfl⟩:=sP;have HO:=zh (show fR w9 B (.slice qa dn qc) ql from g_.own ho);clear ho;go_wp2_with fail;exact ⟨rfl,gI,fun t ht=>by injection ht with ht;subst ht;exact ⟨⟨qa,qc,rfl,HO.out⟩,fun h=>by simp at h⟩⟩
  intro f w2 hb hd;have d2:f 2=(.int .u64 key):=hd 2 (by kernel_rfl);have d4:f 4=(.int .u32 ck):=hd 4 (by kernel_rfl);obtain ⟨a7,c7,d7,r7⟩:=show ∃ a c,f 7=.slice a dn c∧fR w2 B (.slice a dn c) ql from hd 7 (by kernel_rfl);clear hd;dsimp only;rw[d2];rw[d4];rw[d7];have HO:=zh r7;clear r7;go_wp2_with fail;exact ⟨rfl,aj _ _,fun t ht=>by injection ht with ht;subst ht;exact ⟨⟨a7,c7,rfl,HO.out⟩,fun h=>by simp at h⟩⟩
 intro f w8 hb hA jw;clear jw;have d0:f 0=(.pointer (some ⟨b,0,none⟩)):=hA 0 (show 0<9 by decide);obtain ⟨a8,c8,d8,r8⟩:=show ∃ a c,f 8=.agg #[.int .u64 key,.int .u32 ck,.bool false,.slice a dn c]∧fR w8 B (.slice a dn c) ql from hA 8 (show 8<9 by decide);clear hA
 try dsimp only
 rw[d0,d8];clear d0 d8;have UJ:=zh (mG.out w8 a8 c8 (HB.out.trans (hb.mono (ak Qy HB.out.size))) r8);have ny:=zh (show fw B w w8 from fw.of ((HB.out.trans (hb.mono (ak Qy HB.out.size))).mono hwc) (ak hB Qy));clear r8 hb mG MN HX HC HB;generalize f 1=rJ,f 2=pY,f 3=pZ,f 4=p_,f 5=q_,f 6=rK,f 7=B9;clear f;go_wp2_with fail;refine UJ.out.mono ?_;rintro e w9 ⟨rfl,gO,gI⟩;have od:=zh gO;have i_:=zh (ny.out.trans gI);clear gO gI;go_wp2_with fail;go_end0;exact ⟨rfl,od.out,i_.out⟩
structure jE (W:World) (b g cap:Nat):Prop where
 c:dZ W cap #[.pointer (some ⟨b,0,none⟩)] 143
 r:dZ W g #[.int .i64 1,.func (.func 144) #[.pointer (some ⟨b,0,none⟩)] #[],.func (.func 145) #[] #[],.func (.func 146) #[] #[.pointer (some ⟨cap,0,none⟩)],.int .i64 2,.func (.func 149) #[.pointer (some ⟨b,0,none⟩)] #[],.func (.func 150) #[] #[.pointer (some ⟨cap,0,none⟩)],.func (.func 152) #[.pointer (some ⟨b,0,none⟩)] #[]] 192
theorem jE.below {W W':World} {b g cap:Nat} (h:jE W b g cap) (hb:Below W.heap.size W W'):jE W' b g cap:=⟨h.c.below hb,h.r.below hb⟩
theorem jE.kept {W W':World} {B b g cap:Nat} (h:jE W b g cap) (hb:fw B W W'):jE W' b g cap:=⟨hb.box h.c (by decide),hb.box h.r (by decide)⟩
theorem zGm (b:Nat) (w:World):Calls Tryz.prog 107 #[.pointer (some ⟨b,0,none⟩)] w fun e w'=>∃ g cap,e=.returned (.slice (some ⟨g,0,none⟩) 2 2)∧jE w' b g cap∧Below w.heap.size w w':=by
 have ew:=(aj w.heap.size w).alloc (ag _) (.cells #[.pointer (some ⟨b,0,none⟩)] 143);have HC:=zh (dZ.new w #[.pointer (some ⟨b,0,none⟩)] 143);have HB:=zh ew;clear ew;generalize hcp:w.heap.size=cap at *;have FU:=zh hcp;clear hcp
 go_enter Tryz.func107,Tryz.ntmps107
 go_upto_region 1 with fail
 try rw[FU.out]
 generalize w.alloc (.cells #[.pointer (some ⟨b,0,none⟩)] 143)=w1 at *;have c0:=HC.out.cell (i:=0) rfl;have UK:cap<w1.heap.size:=HC.out.lt
 go_cut [3] (fun v wx=>v=.pointer (some ⟨w1.heap.size,0,none⟩)∧wx=w1.alloc (.cells #[.int .i64 1,.func (.func 144) #[.pointer (some ⟨b,0,none⟩)] #[],.func (.func 145) #[] #[],.func (.func 146) #[] #[.pointer (some ⟨cap,0,none⟩)]] 192))
 case first =>
  go_wp2_with fail;go_meet
  case rel=>exact ⟨rfl,rfl⟩
 obtain ⟨rfl,rfl⟩:=hcut;have hb2:=(aj w1.heap.size w1).alloc (ag _) (.cells #[.int .i64 1,.func (.func 144) #[.pointer (some ⟨b,0,none⟩)] #[],.func (.func 145) #[] #[],.func (.func 146) #[] #[.pointer (some ⟨cap,0,none⟩)]] 192);have J5:=zh (dZ.new w1 #[.int .i64 1,.func (.func 144) #[.pointer (some ⟨b,0,none⟩)] #[],.func (.func 145) #[] #[],.func (.func 146) #[] #[.pointer (some ⟨cap,0,none⟩)]] 192);have Ao:=zh (HC.out.below hb2);have eM:=zh (HB.out.trans (hb2.mono (bU UK)));clear hb2 c0;generalize hg1:w1.heap.size=g1 at *;have sB:=zh hg1;clear hg1;generalize w1.alloc (.cells #[.int .i64 1,.func (.func 144) #[.pointer (some ⟨b,0,none⟩)] #[],.func (.func 145) #[] #[],.func (.func 146) #[] #[.pointer (some ⟨cap,0,none⟩)]] 192)=w2 at *;have c0:=Ao.out.cell (i:=0) rfl;have N3:cap<w2.heap.size:=Ao.out.lt
 have aaR:g1<w2.heap.size:=J5.out.lt;go_upto_region 2 with fail
 go_cut [4] (fun v wx=>v=.pointer (some ⟨w2.heap.size,0,none⟩)∧wx=w2.alloc (.cells #[.int .i64 2,.func (.func 149) #[.pointer (some ⟨b,0,none⟩)] #[],.func (.func 150) #[] #[.pointer (some ⟨cap,0,none⟩)],.func (.func 152) #[.pointer (some ⟨b,0,none⟩)] #[]] 192))
 case first =>
  go_wp2_with fail;go_meet
  case rel=>exact ⟨rfl,rfl⟩
 obtain ⟨rfl,rfl⟩:=hcut;have hb3:=(aj w2.heap.size w2).alloc (ag _) (.cells #[.int .i64 2,.func (.func 149) #[.pointer (some ⟨b,0,none⟩)] #[],.func (.func 150) #[] #[.pointer (some ⟨cap,0,none⟩)],.func (.func 152) #[.pointer (some ⟨b,0,none⟩)] #[]] 192);have iA:=zh (dZ.new w2 #[.int .i64 2,.func (.func 149) #[.pointer (some ⟨b,0,none⟩)] #[],.func (.func 150) #[] #[.pointer (some ⟨cap,0,none⟩)],.func (.func 152) #[.pointer (some ⟨b,0,none⟩)] #[]] 192);have J6:=zh (J5.out.below hb3);have HC3:=zh (Ao.out.below hb3);have gy:=zh (eM.out.trans (hb3.mono (bU N3)));clear hb3 c0;generalize hg2:w2.heap.size=g2 at *;clear hg2;generalize w2.alloc (.cells #[.int .i64 2,.func (.func 149) #[.pointer (some ⟨b,0,none⟩)] #[],.func (.func 150) #[] #[.pointer (some ⟨cap,0,none⟩)],.func (.func 152) #[.pointer (some ⟨b,0,none⟩)] #[]] 192)=w3 at *
 have y0:=J6.out.cell (i:=0) rfl;have y1:=J6.out.cell (i:=1) rfl;have y2:=J6.out.cell (i:=2) rfl;have y3:=J6.out.cell (i:=3) rfl;have z0:=iA.out.cell (i:=0) rfl;have z1:=iA.out.cell (i:=1) rfl;have z2:=iA.out.cell (i:=2) rfl;have z3:=iA.out.cell (i:=3) rfl;have N4:cap<w3.heap.size:=HC3.out.lt;go_wp2_with fail;go_ret;have hb4:=(aj w3.heap.size w3).alloc (ag _) (.cells #[.int .i64 1,.func (.func 144) #[.pointer (some ⟨b,0,none⟩)] #[],.func (.func 145) #[] #[],.func (.func 146) #[] #[.pointer (some ⟨cap,0,none⟩)],.int .i64 2,.func (.func 149) #[.pointer (some ⟨b,0,none⟩)] #[],.func (.func 150) #[] #[.pointer (some ⟨cap,0,none⟩)],.func (.func 152) #[.pointer (some ⟨b,0,none⟩)] #[]] 192)
 refine ⟨w3.heap.size,cap,rfl,⟨HC3.out.below hb4,dZ.new w3 #[.int .i64 1,.func (.func 144) #[.pointer (some ⟨b,0,none⟩)] #[],.func (.func 145) #[] #[],.func (.func 146) #[] #[.pointer (some ⟨cap,0,none⟩)],.int .i64 2,.func (.func 149) #[.pointer (some ⟨b,0,none⟩)] #[],.func (.func 150) #[] #[.pointer (some ⟨cap,0,none⟩)],.func (.func 152) #[.pointer (some ⟨b,0,none⟩)] #[]] 192⟩,gy.out.trans (hb4.mono (bU N4))⟩
end Go.Proofs.YtcgfilmmokmdjaaGreat
namespace Go.Proofs.YtcgfilmmokmdjaaGreat
open Go.RowKit
section
variable {P:fB} {q:Rq}
theorem qu (h:P.res.length=16):zm P q=(false,P):=by unfold zm;rw[ah h]
theorem zCd (h:¬ P.res.length=16) (h1:q.kind=1) (h2:yD P.t q=9) (h3:vO P.t=true):zm P q=(false,{P with ey:=decide (P.res.length=0)}):=by
 unfold zm;rw[ai h,ah h1,ah ⟨h2,h3⟩]
theorem um (h:¬ P.res.length=16) (h1:q.kind=1) (h2:¬ (yD P.t q=9∧vO P.t=true)) (h3:¬ yD P.t q=0):zm P q=(true,more P (yD P.t q)):=by
 unfold zm;rw[ai h,ah h1,ai h2,ai h3]
theorem zBD (h:¬ P.res.length=16) (h1:q.kind=1) (h3:yD P.t q=0) (h4:0<P.bytes∧16384<P.bytes+(eN q.data.length:Int)):zm P q=(false,P):=by
 unfold zm;rw[ai h,ah h1,ai (fun h=>by have:=h.1;omega),ah h3,ah h4]
theorem UL (h:¬ P.res.length=16) (h1:q.kind=1) (h3:yD P.t q=0) (h4:¬ (0<P.bytes∧16384<P.bytes+(eN q.data.length:Int))):zm P q=(true,more (xH P (vX q)) 0):=by
 unfold zm;rw[ai h,ah h1,ai (fun h=>by have:=h.1;omega),ah h3,ai h4]
theorem zD8:yd P.t q=0∨yd P.t q=6:=by unfold yd;split<;>simp
theorem zBy:yD P.t q=0∨yD P.t q=8∨yD P.t q=9:=by
 unfold yD
 split
 ·
  simp
 split<;>simp
theorem zEn (h:yD P.t q=0):q.data.length≤4096:=by
 unfold yD at h
 split at h
 ·
  cases h
 omega
theorem qy (h:¬ P.res.length=16) (h1:q.kind=2) (h3:yd P.t q=6):zm P q=(true,more P 6):=by
 unfold zm;rw[ai h,ai (by omega),ah h1,ai (by omega)]
theorem zBa (h:¬ P.res.length=16) (h1:q.kind=2) (h3:yd P.t q=0) (h4:wC P.t q.key=true∧0<P.bytes∧16384<P.bytes+24):zm P q=(false,P):=by
 unfold zm;rw[ai h,ai (by omega),ah h1,ah h3,ah h4]
theorem qk (h:¬ P.res.length=16) (h1:q.kind=2) (h3:yd P.t q=0) (h4:¬ (wC P.t q.key=true∧0<P.bytes∧16384<P.bytes+24)):zm P q=(true,more (we P q) 0):=by
 unfold zm;rw[ai h,ai (by omega),ah h1,ah h3,ai h4]
theorem zAU (h:¬ P.res.length=16) (h1:¬ q.kind=1) (h2:¬ q.kind=2):zm P q=(true,more P 1):=by
 unfold zm;rw[ai h,ai h1,ai h2]
end
theorem zK0 (s:eX) (a:Option Addr) (n c:Nat) (L:List GP) (W:World) (hr:fD W (.slice a n c) L) (hg:ep L=s.dY) (hl:fu 1000 s.dY) :
  Calls Tryz.prog 35 #[zO s.id s.lim s.ro a n c] W fun e w'=>e=.returned (.bool (vO s))∧Below W.heap.size W w':=by
 have h:=zEv s.id s.lim s.ro a n c L W hr (xu (hg▸hl) (by decide));obtain ⟨i,l,r,g⟩:=s;dsimp only at hg h ⊢;subst hg;exact h
theorem qt:xt Tryz.prog 69 39 1 8:=by
 obtain ⟨i,hi,hz,hs,hb⟩:=cm (P:=Tryz.prog) (e:=39) (z:=.int .i64 0) (size:=1) (bytes:=8) (by kernel_rfl);exact ⟨Tryz.underlying69,by decide,i,_,hi,hz,hs,hb,rfl⟩
theorem zMC (i l:Int) (r:Bool) (ga:Option Addr) (gn gc:Nat) (ey:Bool) (kv nv rv:Value) (gQ:Int) (u:Value):(tY i l r ga gn gc ey kv nv rv gQ).setIfInBounds 8 u=tY i l r ga gn gc ey kv nv u gQ:=by
 simp only[aK,aM,aJ]
theorem zLm (i l:Int) (r:Bool) (ga:Option Addr) (gn gc:Nat) (ey:Bool) (kv nv rv:Value) (gQ:Int) (z:Bool):(tY i l r ga gn gc ey kv nv rv gQ).setIfInBounds 4 (.bool z)=tY i l r ga gn gc z kv nv rv gQ:=by
 simp only[aK,aM,aJ]
theorem mo.res {W W1:World} {B:Nat} {P:fB} {ga:Option Addr} {gn gc:Nat} {L:List GP} {kv:Value} {ks:List KP} {nv:Value} {es:List (Nd×Value)} {rv DG:Value} (h:mo W B P ga gn gc L kv ks nv es rv) (e:Int)
  (hg:W.grownBy W1 rv.ownBlock) (ho:W1.ownsRow B 39 1 DG (P.res.length+1) (P.res.map tV++[.int .i64 e])):mo W1 B (more P e) ga gn gc L kv ks nv es DG∧fA W W1 B 39:=by
 have hO:fA W W1 B 39:=fA.row h.r hg (ag _);refine ⟨⟨h.g.eY hO (by decide) (by decide),h.gg,h.k.eY hO (by decide) (by decide),h.kk,h.n.eY hO (by decide) (by decide),h.nn,?_⟩,hO⟩
 show W1.ownsRow B _ 1 DG (P.res++[e]).length ((P.res++[e]).map tV)
 rw[aw,bD];exact ho
end Go.Proofs.YtcgfilmmokmdjaaGreat
namespace Go.Proofs.YtcgfilmmokmdjaaGreat
structure lL (K G n:Nat) (P:fB):Prop where
 l:fu (K+n) P.t.dY
 k:ou (8*n) P.eu
 g:P.t.dY.length≤G
 b:0≤P.bytes∧P.bytes≤5000*(n:Int)
 e:P.needs.length≤n
theorem lL.mono {K G n m:Nat} {P:fB} (h:lL K G n P) (hm:n≤m):lL K G m P:=⟨h.l.mono (by omega),h.k.mono (by omega),h.g,⟨h.b.1,by have:=h.b.2;omega⟩,ak h.e hm⟩
theorem zDX {K n m:Nat} {G:Nat} {P:fB} {x:Nd} (hl:fu (K+n) P.t.dY) (hk:ou (8*m) P.eu) (hg:P.t.dY.length≤G) (hb:0≤P.bytes∧P.bytes≤5000*(n:Int)) (he:P.needs.length≤n) (hm:m≤n+1):lL K G (n+1) (xH P x):=by
 have hs:=xj x.data.length;refine ⟨?_,hk.mono (by omega),ak (zGF _ _) hg,⟨?_,?_⟩,?_⟩
 ·
  have:=kx (s:=P.t) (g:=(xE (wn P.t).2 [x]).2) (K:=K+n+1) (hl.mono (by omega)) (fun i hi=>qK (kO hl) i hi);exact this
 ·
  show 0≤P.bytes+(eN x.data.length:Int)
  have:=hb.1;omega
 ·
  show P.bytes+(eN x.data.length:Int)≤5000*((n+1:Nat):Int)
  have:=hb.2;omega
 show (P.needs++[x]).length≤n+1
 rw[aw];exact Nat.succ_le_succ he
theorem zBt {K M:Nat} {key:Int}:∀ (l:List Int) (P:fB),fu K P.t.dY→ou M P.eu→(∀ x∈l,1≤x∧x≤8)→fu K (l.foldl (yK key) P).t.dY∧ou (M+l.length) (l.foldl (yK key) P).eu∧(l.foldl (yK key) P).t.dY.length≤P.t.dY.length
 |[],P,h1,h2,_=>⟨h1,h2,ag _⟩
 |x::r,P,h1,h2,h3=>by
  obtain ⟨g1,g2,g3⟩:=zBt (M:=M+1) r (yK key P x) (zBZ h1) (h2.ins (h3 x (by simp)) key) (fun y hy=>h3 y (by simp[hy]));refine ⟨g1,?_,ak g3 (zDb _ _ _)⟩;have e:M+(x::r).length=M+1+r.length:=by rw[aV];omega
  rw[e];exact g2
theorem zHG {K G n:Nat} {P:fB} {q:Rq} (h:lL K G n P):lL K G (n+1) (we P q):=by
 obtain ⟨g1,g2,g3⟩:=zBt (key:=q.key) (zS P.t q.key) P h.l h.k (fun x hx=>uq hx);have h8:=qg P.t q.key;obtain ⟨r1,r2,r3,r4⟩:=wR P q.key;have hk:ou (8*(n+1)) (wK P q.key).eu:=ou.mono g2 (by omega);unfold we
 split
 ·
  exact zDX (m:=n+1) (n:=n) g1 hk (ak g3 h.g) (by rw[r3];exact h.b) (by rw[r2];exact h.e) (ag _)
 exact ⟨fu.mono g1 (by omega),hk,ak g3 h.g,by rw[r3];exact ⟨h.b.1,by have:=h.b.2;omega⟩,by rw[r2];exact Nat.le_succ_of_le h.e⟩
theorem zIi {K G n:Nat} {P:fB} {e:Int} (h:lL K G n P):lL K G n (more P e):=⟨h.l,h.k,h.g,h.b,h.e⟩
theorem zDr (P:fB) (e:Int):(more P e).res.length=P.res.length+1:=by unfold more;simp
theorem zHn (P:fB) (q:Rq):(we P q).res=P.res:=by
 unfold we
 split
 ·
  rw[kN];exact (wR P q.key).1
 exact (wR P q.key).1
theorem k6 {K G:Nat} {P:fB} {q:Rq} (h:lL K G P.res.length P):lL K G (zm P q).2.res.length (zm P q).2:=by
 have hm:∀ (Q:fB) (e:Int),Q.res.length=P.res.length→lL K G (P.res.length+1) Q→lL K G (more Q e).res.length (more Q e):=fun Q e hq h=>by
  rw[zDr,hq];exact zIi h
 unfold zm
 split
 ·
  exact h
 split
 ·
  split
  ·
   exact ⟨h.l,h.k,h.g,h.b,h.e⟩
  split
  ·
   split
   ·
    exact h
   exact hm _ _ rfl (zDX (m:=P.res.length) (n:=P.res.length) h.l h.k h.g h.b h.e (by omega))
  exact hm _ _ rfl (h.mono (by omega))
 split
 ·
  split
  ·
   split
   ·
    exact h
   exact hm _ _ (by rw[zHn]) (zHG h)
  exact hm _ _ rfl (h.mono (by omega))
 exact hm _ _ rfl (h.mono (by omega))
/-! ### ZK many items a generation may have -/
theorem kt (M:Mp) (k:Int):fT (zJ M) k=zg M k:=by
 have h:=vk M k
 rwa [yQ (yb M)] at h
theorem zH4 {M:Mp} (h:fZ M) {x:It} (hx:x∈zJ M):oB x:=by
 have h1:=(xb h).1 hx;rw[xp h] at h1;exact (ub.1 (h.ok _ (wX _))).2 x (wg h1).1
theorem zGc:∀ l:List It,(∀ x∈l,oB x)→24*l.length≤zv l
 |[],_=>aq _
 |x::r,h=>by
  have ih:=zGc r fun y hy=>h y (by simp[hy])
  obtain ⟨_,_,_,h4,h5⟩:=h x (by simp);have h6:eN x.size.toNat=rN x.size.toNat:=LR (by omega);have h7:=us x.size.toNat
  show 24*(r.length+1)≤eN x.size.toNat+zv r
  omega
theorem zKo {g:Gn} (h:lh g):(((zJ g.m).length*24:Nat):Int)≤g.size-16:=by
 have hm:=(zV _).1 h.m;have h1:=zGc (zJ g.m) fun x hx=>zH4 hm hx
 have h2:zv (zJ g.m)=zv (vN g.m):=by
  unfold zJ;rw[ah h.m];exact hm.sum
 have h3:=hm.lv;have h4:=hm.g0;have h5:=h.sum;omega
theorem zDo:∀ {l:List It} {k:Int},fT l k≠none→(gP l k).length+1≤l.length
 |[],k,h=>absurd rfl h
 |x::r,k,h=>by
  by_cases e:x.key=k
  ·
   have h1:gP (x::r) k=gP r k:=by unfold gP;rw[cC,ai (by simpa using e)]
   have h2:=uh r k;rw[h1,aV];omega
  have h1:gP (x::r) k=x::gP r k:=by unfold gP;rw[cC,ah (by simpa using e)]
  rw[zp,ai e] at h;have h2:=zDo h;rw[h1,aV,aV];omega
theorem zHu {M:Mp} (h:fZ M) {k:Int} (hr:M.d_+(iG (zg M k):Int)≤1099511627776):zJ (yP M k)=gP (zJ M) k:=by
 refine qC _ _ (qX (yb _)) ((qX (yb _)).filter _) fun j=>?_
 rw[kt,kR h hr,Rx,kt]
 by_cases e:j=k
 ·
  rw[ah e,ah e.symm]
 rw[ai e,ai fun h=>e h.symm]
theorem zDY {M:Mp} (h:fZ M) {n:Int} (h0:0≤n) (hr:M.d_+n≤1099511627776):zJ (xF M n)=zJ M:=by
 unfold zJ;rw[ah ((zV _).2 (h.Ex h0 hr)),ah ((zV _).2 h)];unfold vN;rw[uU]
/-! ### A record more -/
def iU (S:eX) (x:Nd):Prop:=x.ok∧((x.del=false∧(ze S).size+(eN x.data.length:Int)≤S.lim)∨(x.del=true∧zg (ze S).m x.key≠none))
theorem zBp {S:eX} (h:eT S) {x:Nd} (hc:iU S x) :
  xE (ze S) [x]=(0,yS (ze S) x)∧Fit S (S.dY.length-1) (yS (ze S) x):=by
 obtain ⟨hx,hc⟩:=hc;obtain ⟨hv,hm,hz⟩:=h.EE;have hlen:=h.len;have hlim:=h.lim;have N6:(ze S).size+(((zJ (ze S).m).length*24:Nat):Int)≤2*S.lim:=h.top;have UM:=(zV _).1 hv.m;have hsz:(ze S).size+(eN x.data.length:Int)≤2*S.lim:=by
  rcases hc with ⟨_,h1⟩|⟨h1,h2⟩
  ·
   omega
  have h3:=hx.2 h1;have h4:1≤(zJ (ze S).m).length:=by
   rw[← kt] at h2
   cases e:zJ (ze S).m with
   |nil=>rw[e] at h2;exact absurd rfl h2
   |cons y r=>rw[aV];omega
  have h5:eN x.data.length=24:=by rw[h3];decide
  omega
 have hz2:(ze S).size+(eN x.data.length:Int)≤1048576:=by omega
 have hz3:(ze S).size+(iR [x]:Int)≤1048576:=by rw[vG,Yt];omega
 have hg:=zEz hv hx hz2;refine ⟨zKi hv hm (l:=[x]) (fun y hy=>by obtain rfl:=List.mem_singleton.1 hy;exact hx) hz3,by omega,hg,(Yv _ _).1,?_,?_,fun _=>?_⟩
 ·
  rw[(Yv _ _).2.2,hm];exact ⟨fun _=>by omega,fun _=>rfl⟩
 ·
  rw[uL];exact hsz
 rcases hc with ⟨_,h1⟩|⟨h1,h2⟩
 ·
  have h3:=zKo hg;rw[uL] at h3 ⊢;omega
 have h5:eN x.data.length=24:=by rw[hx.2 h1];decide
 have hr:=hv.room x.key;have hd:=UM.del hr;have hds:=kA UM hr;have il:=hd.live0;have hsm:=hv.small;have e:zJ (yS (ze S) x).m=gP (zJ (ze S).m) x.key:=by
  unfold yS;dsimp only;rw[ah h1,zDY hd (by omega) (by omega),zHu UM hr]
 have h6:=zDo (l:=zJ (ze S).m) (k:=x.key) (by rw[kt];exact h2);rw[e,uL,h5];omega
/-! ### What a gV slot keeps -/
structure Kp (S s:eX):Prop where
 v:eT s
 id:s.id=S.id
 lim:s.lim=S.lim
 ro:s.ro=S.ro
 len:s.dY.length=S.dY.length
 num:∀ r,r<S.dY.length→(eV s.dY r).num=(eV S.dY r).num
theorem Kp.refl {S:eX} (h:eT S):Kp S S:=⟨h,rfl,rfl,rfl,rfl,fun _ _=>rfl⟩
theorem Kp.set {S s:eX} (h:Kp S s) {j:Nat} {g:Gn} (hf:Fit s j g):Kp S (wi s j g):=by
 refine ⟨ZH h.v hf,h.id,h.lim,h.ro,?_,fun r hr=>?_⟩
 ·
  show (s.dY.set j g).length=_
  rw[a_];exact h.len
 show (eV (s.dY.set j g) r).num=_
 rw[vT hf.hj]
 by_cases e:r=j
 ·
  rw[ah e,hf.n,← e];exact h.num r hr
 rw[ai e];exact h.num r hr
theorem Kp.trans {S s t:eX} (h:Kp S s) (h':Kp s t):Kp S t:=⟨h'.v,h'.id.trans h.id,h'.lim.trans h.lim,h'.ro.trans h.ro,h'.len.trans h.len,fun r hr=>(h'.num r (by rw[h.len];exact hr)).trans (h.num r hr)⟩
theorem zGT {S:eX} (h:eT S):vO S=decide ((ze S).num<8):=by unfold vO;rw[(zW S).2 h,bV]
theorem Kp.can {S s:eX} (hS:eT S) (h:Kp S s):vO s=vO S:=by
 have hlen:=hS.len;rw[zGT h.v,zGT hS];have e:(ze s).num=(ze S).num:=by
  unfold ze;rw[h.len];exact h.num _ (by omega)
 rw[e]
theorem zHk {s:eX} (h:eT s) (g:Gn):ze (wi s (s.dY.length-1) g)=g:=by
 have hlen:=h.len;unfold ze wi;dsimp only;rw[a_,vT (by omega),ah rfl]
theorem qJ {s:eX} {r:Nat} (hr:r+1<s.dY.length) (g:Gn):ze (wi s r g)=ze s:=by
 unfold ze wi;dsimp only;rw[a_,vT (by omega),ai (by omega)]
theorem QA {P:fB} (h:eT P.t) {x:Nd} (hc:iU P.t x):(xH P x).t=wi P.t (P.t.dY.length-1) (yS (ze P.t) x):=by
 obtain ⟨h1,h2⟩:=zBp h hc
 show (yV P.t (xE (wn P.t).2 [x]).2).1=_
 rw[zLG h];dsimp only;rw[h1,T7 h h2]
theorem zK9 {s:eX} (h:eT s) {r:Nat} (hr:r<s.dY.length):kQ s.dY (eV s.dY r).num=r:=
 zBd hr rfl fun j hj=>h.z_ (by omega) hr (by omega)
theorem uW {s:eX} (h:eT s) {r:Nat} (hr:r+1<s.dY.length) (key:Int):xW s (eV s.dY r).num [key]=(wi s r (vz (eV s.dY r) key),0):=by
 have hm:(eV s.dY r).mode≠1:=fun e=>by have:=(h.g r (by omega)).2.2.1.1 e;omega
 unfold xW;rw[zK9 h (by omega),ah (by omega),ZG (h.vg (by omega)) hm,ah rfl,T7 h (fit_drop h hr key)]
theorem zBk {S:eX} {key:Int}:∀ (l:List Int) (P:fB),Kp S P.t→ze P.t=ze S→(∀ x∈l,∃ r,r+1<S.dY.length∧x=(eV S.dY r).num)→Kp S (l.foldl (yK key) P).t∧ze (l.foldl (yK key) P).t=ze S
 |[],P,h,ht,_=>⟨h,ht⟩
 |x::l,P,h,ht,hl=>by
  obtain ⟨r,hr,e⟩:=hl x (by simp);have hr2:r+1<P.t.dY.length:=by rw[h.len];exact hr
  have e2:(yK key P x).t=wi P.t r (vz (eV P.t.dY r) key):=by
   show (xW P.t x [key]).1=_
   rw[e,← h.num r (by omega),uW h.v hr2]
  refine zBk l (yK key P x) (by rw[e2];exact h.set (fit_drop h.v hr2 key)) (by rw[e2,qJ hr2];exact ht) fun y hy=>hl y (by simp[hy])
theorem UN {s:eX} (h:eT s) {key x:Int} (hx:x∈zS s key):∃ r,r+1<s.dY.length∧x=(eV s.dY r).num:=by
 rw[ZJ h] at hx;obtain ⟨i,hi,e⟩:=cG hx;obtain ⟨r,h1,h2,_,_⟩:=T8 s.dY key _ i hi;rw[aB hi] at h2;exact ⟨r,by omega,by rw[← e];exact Option.some.inj h2⟩
theorem zB7 {P:fB} (h:eT P.t) (key:Int):Kp P.t (wK P key).t∧ze (wK P key).t=ze P.t:=
 zBk _ P (Kp.refl h) rfl fun _ hx=>UN h hx
theorem ud {t:eX} (h:eT t) (key:Int):wC t key=true↔zg (ze t).m key≠none:=by
 have hlen:=h.len;obtain ⟨_,hm,_⟩:=h.EE;unfold wC;rw[T9 h,T_ h]
 cases hx:zg (ze t).m key with
 |some y=>simp[hm]
 |none =>
  refine ⟨fun hb=>?_,fun h=>absurd rfl h⟩
  exfalso
  simp only[bQ,aN,Bool.not_eq_true',aR] at hb;obtain ⟨h1,h2⟩:=hb
  cases e:xU t.dY key (t.dY.length-1) with
  |nil=>rw[e] at h1;cases h1
  |cons x r =>
   rw[e] at h2;obtain ⟨g1,g2,_⟩:=ZI e;have h2:x.mode=1:=h2;rw[g2] at h2;have:=(h.g x.at_ (by omega)).2.2.1.1 h2;omega
theorem zIW {t:eX} (h:eT t) {n:Int} (hf:yY t n=true):(ze t).size+(eN n.toNat:Int)≤t.lim:=by
 unfold yY at hf;simp only[aN,aR] at hf;exact hf.2
theorem UO {t:eX} (h:eT t) {q:Rq} (hc:yD t q=0):iU t (vX q):=by
 unfold yD at hc
 split at hc
 ·
  cases hc
 rename_i hl
 split at hc
 ·
  rename_i hf;have:=zIW h hf;rw[dP] at this;exact ⟨⟨by show q.data.length≤4096;omega,fun e=>(by cases e)⟩,.inl ⟨rfl,this⟩⟩
 cases hc
theorem UP {t:eX} {q:Rq} (hc:zg (ze t).m q.key≠none):iU t (vj q):=⟨⟨aq _,fun _=>rfl⟩,.inr ⟨rfl,hc⟩⟩
theorem kK {P:fB} (h:eT P.t) {x:Nd} (hc:iU P.t x):Kp P.t (xH P x).t:=by
 rw[QA h hc];exact (Kp.refl h).set (zBp h hc).2
theorem zIn {P:fB} (h:eT P.t) (q:Rq):Kp P.t (we P q).t:=by
 obtain ⟨h1,h2⟩:=zB7 h (q.key:Int);unfold we
 split
 ·
  rename_i hb;exact h1.trans (kK h1.v (UP ((ud h1.v _).1 hb)))
 exact h1
theorem zJ6 {P:fB} (h:eT P.t) (q:Rq):Kp P.t (zm P q).2.t:=by
 unfold zm
 split
 ·
  exact Kp.refl h
 split
 ·
  split
  ·
   exact Kp.refl h
  split
  ·
   rename_i hc
   split
   ·
    exact Kp.refl h
   exact kK (P:=P) h (UO h hc)
  exact Kp.refl h
 split
 ·
  split
  ·
   split
   ·
    exact Kp.refl h
   exact zIn h q
  exact Kp.refl h
 exact Kp.refl h
/-! ### The bytes of a plan -/
structure sI (P:fB):Prop where
 b:P.bytes=(iR P.needs:Int)
 m:P.needs.length≤1∨iR P.needs≤16384
 ok:∀ x∈P.needs,x.ok
theorem zF3 {l:List Nd} (h:∀ x∈l,x.ok):24*l.length≤iR l:=by
 induction l with
 |nil=>exact aq _
 |cons x r ih =>
  have h1:=ih fun y hy=>h y (by simp[hy])
  have h2:=h x (by simp);have h3:eN x.data.length=rN x.data.length:=LR h2.1;have h4:=us x.data.length;rw[vG,aV];omega
theorem sI.add {P:fB} (h:sI P) {x:Nd} (hx:x.ok) (hb:¬ (0<P.bytes∧16384<P.bytes+(eN x.data.length:Int))):sI (xH P x):=by
 have hp:=zF3 h.ok;have hB:=h.b;have e:iR (P.needs++[x])=iR P.needs+eN x.data.length:=kX _ _;refine ⟨?_,?_,fun y hy=>?_⟩
 ·
  show P.bytes+(eN x.data.length:Int)=(iR (P.needs++[x]):Int)
  rw[e];omega
 ·
  show (P.needs++[x]).length≤1∨iR (P.needs++[x])≤16384
  rw[e,aw]
  by_cases h0:P.needs.length=0
  ·
   left;rw[h0];simp
  right;omega
 rcases List.mem_append.1 (show y∈P.needs++[x] from hy) with hy|hy
 ·
  exact h.ok y hy
 obtain rfl:=List.mem_singleton.1 hy;exact hx
theorem sI.eu {P:fB} (h:sI P) (key:Int):sI (wK P key):=by
 obtain ⟨_,h2,h3,_⟩:=wR P key;exact ⟨by rw[h2,h3];exact h.b,by rw[h2];exact h.m,by rw[h2];exact h.ok⟩
theorem zBR {P:fB} (h:eT P.t) (key:Int):wC (wK P key).t key=wC P.t key:=by
 obtain ⟨h1,h2⟩:=zB7 h key;rw[cT,ud h1.v,ud h,h2]
theorem zHz {P:fB} (hv:eT P.t) (h:sI P) (q:Rq):sI (zm P q).2:=by
 unfold zm
 split
 ·
  exact h
 split
 ·
  split
  ·
   exact ⟨h.b,h.m,h.ok⟩
  split
  ·
   rename_i hc
   split
   ·
    exact h
   rename_i hb;have:=sI.add h (UO hv hc).1 hb;exact ⟨this.b,this.m,this.ok⟩
  exact ⟨h.b,h.m,h.ok⟩
 split
 ·
  split
  ·
   split
   ·
    exact h
   rename_i hb;have hk:=h.eu q.key;obtain ⟨_,_,h3,_⟩:=wR P q.key;unfold we
   split
   ·
    rename_i ht;rw[zBR hv] at ht
    have:=sI.add hk (x:=vj q) ⟨aq _,fun _=>rfl⟩ (by
     rw[h3,show eN (vj q).data.length=24 from (by show eN 0=24;decide)]
     exact fun e=>hb ⟨ht,e.1,e.2⟩)
    exact ⟨this.b,this.m,this.ok⟩
   exact ⟨hk.b,hk.m,hk.ok⟩
  exact ⟨h.b,h.m,h.ok⟩
 exact ⟨h.b,h.m,h.ok⟩
/-! ### The UQ -/
def J7 (l:List Rq) (i:Nat):Rq:=l.getD i La
def FW (l:List Int) (i:Nat):Int:=l.getD i 0
structure zMs (S:eX) (l:List Rq) (P:fB):Prop where
 kp:Kp S P.t
 b:sI P
 n:P.res.length≤l.length
 m:P.res.length≤16
 r0:P.ey=false
 r:∀ i,i<P.res.length→(FW P.res i=9→vO S=false)∧(FW P.res i=8→4096<(J7 l i).data.length)
structure zMr (S:eX) (l:List Rq) (P:fB):Prop where
 kp:Kp S P.t
 b:sI P
 n:P.res.length≤l.length
 m:P.res.length≤16
 r:∀ i,i<P.res.length→(FW P.res i=9→vO S=false)∧(FW P.res i=8→4096<(J7 l i).data.length)
 t:0<l.length→P.res.length=0→P.ey=true∧vO S=true∧(J7 l 0).kind=1∧yY S ((J7 l 0).data.length:Int)=false
 rr:P.ey=true→P.res.length=0
theorem zGp {s:eX} {i j:Nat} (h:i≠j) (a b:Gn):wi (wi s i a) j b=wi (wi s j b) i a:=by
 unfold wi;dsimp only;rw[List.set_comm _ _ h]
theorem zEc {s:eX} {i j:Nat} (hi:i<s.dY.length) (h:j≠i) (a:Gn):eV (wi s i a).dY j=eV s.dY j:=by
 show eV (s.dY.set i a) j=_
 rw[vT hi,ai h]
theorem iU.N7 {S:eX} {x:Nd} (hc:iU S x) {r:Nat} (hr:r+1<S.dY.length) (g:Gn):iU (wi S r g) x:=by
 unfold iU;rw[qJ hr];exact hc
theorem zIr {P:fB} (h:eT P.t) {x:Nd} (hc:iU P.t x) {r:Nat} (hr:r+1<P.t.dY.length) (key:Int) :
  yK key (xH P x) (eV P.t.dY r).num=xH (yK key P (eV P.t.dY r).num) x:=by
 have hlen:=h.len;have ha:=QA h hc;have hk:=kK h hc;have hr2:r+1<(xH P x).t.dY.length:=by rw[hk.len];exact hr
 have e1:(yK key P (eV P.t.dY r).num).t=wi P.t r (vz (eV P.t.dY r) key):=by
  show (xW P.t _ [key]).1=_
  rw[uW h hr]
 have hv2:eT (yK key P (eV P.t.dY r).num).t:=by rw[e1];exact ((Kp.refl h).set (fit_drop h hr key)).v
 have e2:(xH (yK key P (eV P.t.dY r).num) x).t=wi (wi P.t r (vz (eV P.t.dY r) key)) (P.t.dY.length-1) (yS (ze P.t) x):=by
  rw[QA hv2 (by rw[e1];exact hc.N7 hr _),e1,qJ hr]
  show wi _ ((P.t.dY.set r _).length-1) _=_
  rw[a_]
 have e3:(yK key (xH P x) (eV P.t.dY r).num).t=wi (wi P.t (P.t.dY.length-1) (yS (ze P.t) x)) r (vz (eV P.t.dY r) key):=by
  show (xW (xH P x).t _ [key]).1=_
  rw[← hk.num r (by omega),uW hk.v hr2,ha,zEc (by omega) (by omega)]
 have e4:(yK key (xH P x) (eV P.t.dY r).num).t=(xH (yK key P (eV P.t.dY r).num) x).t:=by
  rw[e3,e2,zGp (by omega)]
 show ({xH P x with t:=(yK key (xH P x) (eV P.t.dY r).num).t,eu:=kL P.eu (eV P.t.dY r).num key}:fB)={yK key P (eV P.t.dY r).num with t:=(xH (yK key P (eV P.t.dY r).num) x).t,needs:=P.needs++[x],bytes:=P.bytes+(eN x.data.length:Int)}
 rw[e4]
 rfl
theorem zCc {S:eX} {key:Int} {x:Nd}:∀ (l:List Int) (P:fB),Kp S P.t→ze P.t=ze S→iU P.t x→(∀ y∈l,∃ r,r+1<S.dY.length∧y=(eV S.dY r).num)→l.foldl (yK key) (xH P x)=xH (l.foldl (yK key) P) x
 |[],_,_,_,_,_=>rfl
 |y::l,P,h,ht,hc,hl=>by
  obtain ⟨r,hr,e⟩:=hl y (by simp);have hr2:r+1<P.t.dY.length:=by rw[h.len];exact hr
  have e2:(yK key P y).t=wi P.t r (vz (eV P.t.dY r) key):=by
   show (xW P.t y [key]).1=_
   rw[e,← h.num r (by omega),uW h.v hr2]
  show l.foldl (yK key) (yK key (xH P x) y)=xH (l.foldl (yK key) (yK key P y)) x
  rw[e,← h.num r (by omega),zIr h.v hc hr2,h.num r (by omega),← e];exact zCc l (yK key P y) (by rw[e2];exact h.set (fit_drop h.v hr2 key)) (by rw[e2,qJ hr2];exact ht) (by rw[e2];exact hc.N7 hr2 _) fun z hz=>hl z (by simp[hz])
noncomputable def UR (P:fB) (q:Rq):fB:=(zS P.t q.key).foldl (yK q.key) (if wC P.t q.key=true then xH P (vj q) else P)
theorem zJW {P:fB} (h:eT P.t) (q:Rq):UR P q=we P q:=by
 unfold UR we;rw[zBR h]
 split
 ·
  rename_i hb;exact zCc _ P (Kp.refl h) rfl (UP ((ud h _).1 hb)) fun _ hx=>UN h hx
 rfl
theorem sI.room {P:fB} (h:sI P):0<P.bytes↔0<P.needs.length:=by
 have h1:=zF3 h.ok;have h2:=h.b
 constructor
 ·
  intro hb
  cases e:P.needs with
  |nil=>rw[e] at h2;exfalso;rw[h2] at hb;exact absurd hb (by decide)
  |cons x r=>simp
 intro hn;omega
end Go.Proofs.YtcgfilmmokmdjaaGreat
