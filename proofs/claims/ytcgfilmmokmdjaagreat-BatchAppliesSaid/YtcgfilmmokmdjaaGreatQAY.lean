import Derived.Test.YtcgfilmmokmdjaaGreatQAX
set_option linter.all false
set_option maxRecDepth 100000
set_option maxHeartbeats 32000000
namespace Go.Proofs.YtcgfilmmokmdjaaGreat
open Go.Proofs.Tryz
open Go.RowKit
def zNf (v:Nat) (h:v<18446744073709551616) (W:World):Calls prog 118 #[.int .u64 (v:Int),.int .i64 8] W fun e w'=>∃ v',e=.returned v'/\lR w' W.heap.size v' (be v 8)/\Below W.heap.size W w':=Qt v 8 W (by omega) h
def zMy (v:Nat) (h:v<18446744073709551616) (W:World):Calls prog 118 #[.int .u64 (v:Int),.int .i64 4] W fun e w'=>∃ v',e=.returned v'/\lR w' W.heap.size v' (be v 4)/\Below W.heap.size W w':=Qt v 4 W (by omega) h
def zKa (w:World):lR (w.alloc (.cells #[.int .u8 78,.int .u8 165,.int .u8 0,.int .u8 0] 5)) w.heap.size (.slice (some ⟨w.heap.size,0,none⟩) 4 4) [78,165,0,0]:=World.ownsRow_lit (size:=1) w (#[.int .u8 78,.int .u8 165,.int .u8 0,.int .u8 0]:Array Value) 4 (ag _) (by decide) rfl
def zIn (w:World):lR (w.alloc (.cells #[.int .u8 78,.int .u8 165,.int .u8 1,.int .u8 0] 5)) w.heap.size (.slice (some ⟨w.heap.size,0,none⟩) 4 4) [78,165,1,0]:=World.ownsRow_lit (size:=1) w (#[.int .u8 78,.int .u8 165,.int .u8 1,.int .u8 0]:Array Value) 4 (ag _) (by decide) rfl
def zI1 (x:Nd) (dv:Value) (w:World) (hok:x.ok) (El:x.Wf) (h:ll w dv x.data) :
  Calls prog 75 #[LU x dv] w fun e w'=>∃ v',e=.returned (.tuple #[v',.int .i64 0])/\lR w' w.heap.size v' (kH x)/\Below w.heap.size w w':=by
 obtain ⟨a,cap,rfl,h1,h2⟩:=h.fO;have HV:=zh (fun W=>tR x a cap W);rw[show decide x.ok=true from aD hok] at HV;have nA:Hid (kH x=[78,165,if x.del then 1 else 0,0]++be x.ck 4++be x.key 8++be x.data.length 4++x.data++ck ([78,165,if x.del then 1 else 0,0]++be x.ck 4++be x.key 8++be x.data.length 4++x.data)++wR (nh x.data.length-(24+x.data.length))):=zh (rfl);have Q6:=xZ x.data.length;obtain ⟨k,c,d,l⟩:=x;obtain ⟨hl,iz⟩:=hok;obtain ⟨hk,hc⟩:=El;dsimp only at *;have jb:=zh (fun W=>UQ l.length W (by omega));rw[Ns hl] at jb;have j1:IntKind.u64.wrap (c:Int)=(c:Int):=IntWalk.u64_in _ (by omega);have j2:IntKind.u64.wrap (l.length:Int)=(l.length:Int):=IntWalk.u64_in _ (by omega);have d1:decide ((4096:Int)<(l.length:Int))=false:=by simp;omega
 have Ch:=zh (zMy c (by omega));have CT:=zh (zNf k (by omega));have HN3:=zh (zMy l.length (by omega));have I3:=zh h;have eP:Hid (Below w.heap.size w (w.alloc (.cells #[.int .u64 (k:Int),.int .u32 (c:Int),.bool d,.slice a l.length cap] 56))):=zh ((aj _ _).alloc (ag _) _);clear h;generalize hn:l.length=n at *;have HL:=zh hn;clear hn
 cases d
 case' false =>
  have nA:Hid (kH ⟨k,c,false,l⟩=(([78,165,0,0]++be c 4++be k 8++be n 4)++l++ck (([78,165,0,0]++be c 4++be k 8++be n 4)++l))++wR (nh n-(24+n))):=zh (nA.o)
  go_enter func75,ntmps75
  go_wp2_with fail;refine (HV.o _).mono ?_;rintro e w1 ⟨rfl,hb1⟩;have hz1:w.heap.size+1<=w1.heap.size:=ak (by simp) hb1.size
  have HC:=zh (fun w' (h:Below w1.heap.size w1 w')=>show w'.cell? ⟨w.heap.size,0,none⟩=some (.int .u64 (k:Int))/\w'.cell? ⟨w.heap.size,1,none⟩=some (.int .u32 (c:Int))/\w'.cell? ⟨w.heap.size,2,none⟩=some (.bool false)/\w'.cell? ⟨w.heap.size,3,none⟩=some (.slice a n cap) from
   ⟨Below.keeps h _ _ (Below.keeps hb1 _ _ (by simp)),Below.keeps h _ _ (Below.keeps hb1 _ _ (by simp)),Below.keeps h _ _ (Below.keeps hb1 _ _ (by simp)),Below.keeps h _ _ (Below.keeps hb1 _ _ (by simp))⟩)
  have eV:=zh (zA eP.o hb1);have h_:Hid (Below w1.heap.size w1 (w1.alloc (.cells #[.int .u8 78,.int .u8 165,.int .u8 0,.int .u8 0] 5))):=zh ((aj _ _).alloc (ag _) _);have FD:=zh (zKa w1);obtain ⟨y0,y1,y2,y3⟩:=HC.o _ h_.o;clear hb1 HV eP;go_wp2_with fail;clear y0 y1 y2 y3;generalize w1.alloc (.cells #[.int .u8 78,.int .u8 165,.int .u8 0,.int .u8 0] 5)=wa at *;generalize hH:([78,165,0,0]:List UInt8)=H at *;have Rg:H.length=4:=by rw[<- hH];rfl
  clear hH;have FD:=zh (show wa.ownsRow w1.heap.size 5 1 (.slice (some ⟨w1.heap.size,0,none⟩) 4 4) 4 (H.map yy) by have:=FD.o;unfold lR at this;rw[Rg] at this;exact this);clear Rg
 case' true =>
  have nA:Hid (kH ⟨k,c,true,l⟩=(([78,165,1,0]++be c 4++be k 8++be n 4)++l++ck (([78,165,1,0]++be c 4++be k 8++be n 4)++l))++wR (nh n-(24+n))):=zh (nA.o)
  go_enter func75,ntmps75
  go_wp2_with fail;refine (HV.o _).mono ?_;rintro e w1 ⟨rfl,hb1⟩;have hz1:w.heap.size+1<=w1.heap.size:=ak (by simp) hb1.size
  have HC:=zh (fun w' (h:Below w1.heap.size w1 w')=>show w'.cell? ⟨w.heap.size,0,none⟩=some (.int .u64 (k:Int))/\w'.cell? ⟨w.heap.size,1,none⟩=some (.int .u32 (c:Int))/\w'.cell? ⟨w.heap.size,2,none⟩=some (.bool true)/\w'.cell? ⟨w.heap.size,3,none⟩=some (.slice a n cap) from
   ⟨Below.keeps h _ _ (Below.keeps hb1 _ _ (by simp)),Below.keeps h _ _ (Below.keeps hb1 _ _ (by simp)),Below.keeps h _ _ (Below.keeps hb1 _ _ (by simp)),Below.keeps h _ _ (Below.keeps hb1 _ _ (by simp))⟩)
  have eV:=zh (zA eP.o hb1);have h_:Hid (Below w1.heap.size w1 (w1.alloc (.cells #[.int .u8 78,.int .u8 165,.int .u8 1,.int .u8 0] 5))):=zh ((aj _ _).alloc (ag _) _);have FD:=zh (zIn w1);obtain ⟨x0,x1,x2,x3⟩:=HC.o _ ((aj w1.heap.size w1).alloc (ag _) (.cells #[.int .u8 78,.int .u8 165,.int .u8 0,.int .u8 0] 5));obtain ⟨y0,y1,y2,y3⟩:=HC.o _ h_.o;clear hb1 HV eP;go_wp2_with fail;clear x0 x1 x2 x3 y0 y1 y2 y3;generalize w1.alloc (.cells #[.int .u8 78,.int .u8 165,.int .u8 1,.int .u8 0] 5)=wa at *;generalize hH:([78,165,1,0]:List UInt8)=H at *;have Rg:H.length=4:=by rw[<- hH];rfl
  clear hH;have FD:=zh (show wa.ownsRow w1.heap.size 5 1 (.slice (some ⟨w1.heap.size,0,none⟩) 4 4) 4 (H.map yy) by have:=FD.o;unfold lR at this;rw[Rg] at this;exact this);clear Rg
 all_goals
  refine (Ch.o _).mono ?_;rintro e wb ⟨vb,rfl,hown,hb⟩;have rM:=zh (zE FD.o hb);have jK:=zh (zA h_.o hb);have hsb:=jK.o.size;have Aw:=zh (show Rd wb 1 vb 4 ((be c 4).map yy) by have:=hown.rd;unfold ll il at this;rw[xP] at this;exact this);clear hown hb FD h_;go_wp2_with (at_builtin;go_must (refine zP (n:=4) (m:=4) rfl (.tmp 17) (.tmp 21) 54 rfl vv w1.heap.size rfl rM.o rfl Aw.o (xJ _) (by decide) (by decide) hsb ?_);intro v2 w2 eM fu hv2;clear hv2;rw[<- aU] at eM;have gp:=zh eM;have eX:=zh (zK jK.o rM.o hsb fu);obtain ⟨y0,y1,y2,y3⟩:=HC.o _ eX.o;clear eM fu rM jK hsb Aw;generalize H++be c 4=H2 at *);clear y0 y1 y2 y3;refine (CT.o _).mono ?_;rintro e wb ⟨vb,rfl,hown,hb⟩;have rM:=zh (zE gp.o hb);have jK:=zh (zA eX.o hb);have hsb:=jK.o.size
  have Aw:=zh (show Rd wb 1 vb 8 ((be k 8).map yy) by have:=hown.rd;unfold ll il at this;rw[xP] at this;exact this);clear hown hb gp eX;go_wp2_with (at_builtin;go_must (refine zP (n:=8) (m:=8) rfl (.tmp 23) (.tmp 26) 54 rfl vv w1.heap.size rfl rM.o rfl Aw.o (xJ _) (by decide) (by decide) hsb ?_);intro v3 w3 eB eW hv3;clear hv3;rw[<- aU] at eB;have lD:=zh eB;have f_:=zh (zK jK.o rM.o hsb eW);obtain ⟨y0,y1,y2,y3⟩:=HC.o _ f_.o;clear eB eW rM jK hsb Aw;generalize H2++be k 8=H3 at *);clear y0 y1 y2 y3;refine (HN3.o _).mono ?_;rintro e wb ⟨vb,rfl,hown,hb⟩;have rM:=zh (zE lD.o hb);have jK:=zh (zA f_.o hb);have hsb:=jK.o.size;have Aw:=zh (show Rd wb 1 vb 4 ((be n 4).map yy) by have:=hown.rd;unfold ll il at this;rw[xP] at this;exact this);clear hown hb lD f_
  go_wp2_with (first|(at_builtin;refine zP (n:=16) (m:=4) rfl (.tmp 28) (.tmp 33) 54 rfl vv w1.heap.size rfl rM.o rfl Aw.o (xJ _) (by decide) (by decide) hsb ?_;intro v4 w4 fw gI hv4;clear hv4;rw[<- aU] at fw;have iP:=zh fw;have gq:=zh (zK jK.o rM.o hsb gI);have hs4:=gq.o.size;obtain ⟨y0,y1,y2,y3⟩:=HC.o _ gq.o;clear fw gI rM jK hsb Aw;generalize H3++be n 4=H4 at *;have lB:=zh (show Rd w4 1 (.slice a n cap) n (l.map yy) by have:=il.bb I3.o (eV.o.trans (gq.o.mono (by omega)));unfold ll il at this;rw[HL.o] at this;exact this);)|(at_builtin;refine zP (n:=20) (m:=n) rfl (.tmp 35) (.tmp 37) 54 rfl vv w1.heap.size rfl iP.o (by rfl) lB.o (xJ _) (by unfold maxLen;omega) (by omega) hs4 ?_;intro v5 w5 fW iK Fb;clear Fb;clear y0 y1 y2 y3;rw[<- aU] at fW;have jA:=zh fW;have gW:=zh (zK gq.o iP.o hs4 iK);have hs5:=gW.o.size;clear fW iK iP gq hs4 lB;generalize H4++l=H5 at *))
  refine (zG1 v5 H5 w5 (vR jA.o)).mono ?_;rintro e wb ⟨vb,rfl,hown,hb⟩;have rM:=zh (zE jA.o hb);have jK:=zh (zA gW.o hb);have hsb:=jK.o.size;have Aw:Hid (Rd wb 1 vb 4 ((ck H5).map yy)):=zh (hown.rd);clear hown hb jA gW;go_wp2_with (at_builtin;go_must (refine zP (n:=20+n) (m:=4) rfl (.tmp 39) (.tmp 41) 54 rfl vv w1.heap.size rfl rM.o rfl Aw.o (xJ _) (by unfold maxLen;omega) (by omega) hsb ?_);intro v6 w6 iU mq FV;clear FV;rw[<- aU] at iU;have o7:=zh iU;have jH:=zh (zK jK.o rM.o hsb mq);clear iU mq rM jK hsb Aw hs5;generalize H5++ck H5=H6 at *;generalize nh n=S at *)
  go_loopw [4] (fun ov W=>∃ m:Nat,24+n<=m/\m<=S/\Hid (W.ownsRow w1.heap.size 5 1 ov m ((H6++wR (m-(24+n))).map yy))/\Hid (Below w1.heap.size w1 W)) (fun ov _=>S-TV ov)
  case atStart=>exact ⟨24+n,ag _,by omega,zh (by rw[Nat.sub_self,show 24+n=20+n+4 by omega];simpa [wR] using o7.o),jH⟩
  obtain ⟨m,hm1,lU,HO,HB⟩:=hrel;obtain ⟨oa,oc,hv,_⟩:=zG HO.o;subst hv;obtain ⟨y0,y1,y2,y3⟩:=HC.o _ HB.o;have hsw:=HB.o.size;go_wp2_with fail;refine (jb.o _).mono ?_;rintro e wx ⟨rfl,rfl⟩;clear y0 y1 y2 y3
  by_cases hlt:m<S
  ·have q1:decide (m<S)=true:=aD hlt;go_wp2_with (at_builtin;go_must (refine zP (n:=m) (m:=1) rfl (.tmp 50) (.tmp 51) 54 rfl vv w1.heap.size rfl (zE HO.o ((aj _ _).alloc (ag _) _)) rfl (R7 _ 0 5) (xJ _) (by unfold maxLen;omega) (by omega) (by simp;omega) ?_);intro v7 w7 Cz J1 IZ;clear IZ);have HG:=zh (zK (zA HB.o ((aj _ _).alloc (ag _) (.cells #[.int .u8 0] 5))) (zE HO.o ((aj _ _).alloc (ag _) _)) (by simp;omega) J1)
   have Dk:=zh (show w7.ownsRow w1.heap.size 5 1 v7 (m+1) ((H6++wR (m+1-(24+n))).map yy) by
    rw[show m+1-(24+n)=(m-(24+n))+1 by omega,show wR ((m-(24+n))+1)=wR (m-(24+n))++[0] from List.replicate_succ',<- aY,aU]
    exact Cz)
   obtain ⟨oa7,oc7,IZ,_⟩:=zG Dk.o;subst IZ;clear Cz J1;go_wp2_with fail;exact ⟨⟨m+1,by omega,by omega,Dk,HG⟩,by simp[TV];omega⟩
  obtain rfl:m=S:=by omega
  have q1:decide (m<m)=false:=aC hlt;have HF:=zh (Go.Joins.ownsRow_le HO.o (show w.heap.size<=w1.heap.size by omega));have HG:=zh (eV.o.trans (HB.o.mono (by omega)));go_wp2_with fail;go_ret2;exact ⟨_,rfl,by rw[nA.o];exact vz HF.o rfl,HG.o⟩
def zEe (x:Nd) (dv:Value) (w:World) (hok:¬ x.ok) (h:ll w dv x.data) :
  Calls prog 75 #[LU x dv] w fun e w'=>e=.returned (.tuple #[.slice none 0 0,.int .i64 (Em x)])/\Below w.heap.size w w':=by
 obtain ⟨a,cap,rfl,h1,h2⟩:=h.fO;have HV:=zh (fun W=>tR x a cap W);rw[show decide x.ok=false from aC hok] at HV;have eP:Hid (Below w.heap.size w (w.alloc (.cells #[.int .u64 (x.key:Int),.int .u32 (x.ck:Int),.bool x.del,.slice a x.data.length cap] 56))):=zh ((aj _ _).alloc (ag _) _);have hE:Em x=if 4096<x.data.length then 8 else 1:=rfl
 generalize Em x=er at *;clear h hok;obtain ⟨k,c,d,l⟩:=x;dsimp only at *;generalize hn:l.length=n at *;clear hn
 by_cases hl:4096<n
 ·rw[ah hl] at hE;subst hE;have d1:decide ((4096:Int)<(n:Int))=true:=by simp;omega
  go_enter func75,ntmps75
  go_wp2_with fail;go_ret2;exact ⟨rfl,eP.o⟩
 rw[ai hl] at hE;subst hE;have d1:decide ((4096:Int)<(n:Int))=false:=by simp;omega
 go_enter func75,ntmps75
 go_wp2_with fail;refine (HV.o _).mono ?_;rintro e w1 ⟨rfl,hb1⟩;have eV:=zh (zA eP.o hb1);clear hb1 HV eP;go_wp2_with fail;go_ret2;exact ⟨rfl,eV.o⟩
def zJ6 {ks:List KP} {k:Nat} (h:k<ks.length):(ks.take (k+1)).flatMap iy=(ks.take k).flatMap iy++iy (iG ks k):=by
 rw[cQ,aA h]
 show (ks.take k++[ks[k]]).flatMap iy=_
 rw[cn,tQ h];simp
def zDP (P:fP) (eH:Bool) (take:Int) (ka na ra:Option Addr) (kc nn nc rn rc:Nat) (ks:List KP) (es:List (Nd×Value)) (w:World) (h:jF w P (.slice ka ks.length kc) ks (.slice na nn nc) es (.slice ra rn rc)) (hks:ks.length<=100000) :
  Calls prog 38 #[.agg #[.bool eH,.int .i64 take,.slice ka ks.length kc,.slice na nn nc,.slice ra rn rc]] w fun e w'=>∃ a c,e=.returned (.agg #[.bool eH,.int .i64 take,.slice a ks.length c,.slice na nn nc,.slice ra rn rc])/\jF w' P (.slice a ks.length c) ks (.slice na nn nc) es (.slice ra rn rc)/\Below w.heap.size w w':=by
 have HH:=zh h;have C0:=zh (fun k (hk:k<ks.length)=>zJ6 hk);clear h
 go_enter func38,ntmps38
 go_upto_region 1 with fail;change Code.wp _ _ _ _ ((w.alloc (.cells #[.bool eH,.int .i64 take,.slice ka ks.length kc,.slice na nn nc,.slice ra rn rc] 78)).alloc (.cells #[.bool false,.int .i64 0,.slice none 0 0,.slice none 0 0,.slice none 0 0] 71));have hb1:=(aj w.heap.size w).alloc (ag _) (.cells #[.bool eH,.int .i64 take,.slice ka ks.length kc,.slice na nn nc,.slice ra rn rc] 78);have HX:=zh (eu.new w #[.bool eH,.int .i64 take,.slice ka ks.length kc,.slice na nn nc,.slice ra rn rc] 78);have hs1:(w.alloc (.cells #[.bool eH,.int .i64 take,.slice ka ks.length kc,.slice na nn nc,.slice ra rn rc] 78)).heap.size=w.heap.size+1:=by simp
 generalize w.alloc (.cells #[.bool eH,.int .i64 take,.slice ka ks.length kc,.slice na nn nc,.slice ra rn rc] 78)=w1 at *;have hb2:=(aj w1.heap.size w1).alloc (ag _) (.cells #[.bool false,.int .i64 0,.slice none 0 0,.slice none 0 0,.slice none 0 0] 71);have HZ:=zh (eu.new w1 #[.bool false,.int .i64 0,.slice none 0 0,.slice none 0 0,.slice none 0 0] 71);have fG:=zh (HX.o.bb hb2);have eV:=zh (zA hb1 hb2);rw[hs1] at HZ;have hs2:w.heap.size+1<(w1.alloc (.cells #[.bool false,.int .i64 0,.slice none 0 0,.slice none 0 0,.slice none 0 0] 71)).heap.size:=HZ.o.lt;clear hb1 hb2 hs1 HX;generalize w1.alloc (.cells #[.bool false,.int .i64 0,.slice none 0 0,.slice none 0 0,.slice none 0 0] 71)=w2 at *;have x0:=fG.o.cell (i:=0) rfl;have x1:=fG.o.cell (i:=1) rfl;have x2:=fG.o.cell (i:=2) rfl;have x3:=fG.o.cell (i:=3) rfl
 have x4:=fG.o.cell (i:=4) rfl;go_upto_region 2 with fail;clear x0 x1 x2 x3 x4;change Code.wp _ _ _ _ (.alloc _ (.cells _ 71));obtain ⟨w3,hV,hb1,MP⟩:=dY w2 #[.bool eH,.int .i64 take,.slice none 0 0,.slice na nn nc,.slice ra rn rc] 71;rw[hV];clear hV;have fK:=zh (fG.o.bb hb1);have EH:=zh (HZ.o.bb hb1);have eX:=zh (zA eV.o hb1);have hs3:w2.heap.size<(w3).heap.size:=MP.o.lt;clear hb1 fG HZ eV;generalize hb3:w2.heap.size=b3 at *;generalize hc4:w.heap.size+1=c4 at *;have hw3:w.heap.size<=w3.heap.size:=by omega
 have x2:=fK.o.cell (i:=2) rfl;obtain ⟨B,hB⟩:∃ B,w3.heap.size=B:=⟨_,rfl⟩
 have jC:=zh (aP w3 B 89 2);have hBb:w.heap.size<=B/\b3<B/\c4<B/\c4≠b3/\w.heap.size<=b3/\w.heap.size<=c4/\b3≠w.heap.size:=by omega
 have W5:B<=w3.heap.size:=by omega
 have Je:=zh W5;clear hB W5 hb3;go_wp2_with fail;clear x2
 go_loopw [18] (fun iv W=>∃ (k:Nat) (a:Option Addr) (c:Nat),iv=.int .i64 (k:Int)/\k<=ks.length/\Hid (eu W b3 #[.bool eH,.int .i64 take,.slice a k c,.slice na nn nc,.slice ra rn rc] 71)/\Hid (W.ownsRow B 89 2 (.slice a k c) k ((ks.take k).flatMap iy))/\Hid (eu W c4 #[.bool false,.int .i64 0,.slice none 0 0,.slice none 0 0,.slice none 0 0] 71)/\Hid (B<=W.heap.size)/\Hid (Below w.heap.size w W)) (fun iv _=>ks.length-(intOf iv).toNat)
 case atStart=>exact ⟨0,none,0,rfl,aq _,MP,jC,EH,Je,eX⟩
 clear MP jC EH Je eX fK;obtain ⟨k,a,c,rfl,hk,HO,j_,HZ,HS,HB⟩:=hrel
 by_cases hlt:k<ks.length
 ·have i1:(k:Int)<(ks.length:Int):=by omega
  obtain ⟨bk,ok,e0,hu,c0,c1⟩:=(HH.o.k.bb HB.o).at hlt;subst e0;have hT:=C0.o k hlt;generalize iG ks k=kp at *;obtain ⟨num,T1,keys⟩:=kp;dsimp only at c0 c1 hu hT;obtain ⟨CD,CG,rfl,_,_⟩:=hu.fO;have HT:=zh hT;clear hT hu;go_upto_region 5 with fail;clear c0 c1;change Code.wp _ _ _ _ (.alloc _ (.cells _ 103));obtain ⟨v1,hV,hb1,HY⟩:=dY wr #[.int .i64 num,.slice CD keys.length CG] 103;rw[hV];clear hV;replace HO:=zh (HO.o.bb hb1);replace j_:=zh (zE j_.o hb1);replace HZ:=zh (HZ.o.bb hb1);replace HS:=zh (ak HS.o hb1.size);replace HB:=zh (zA HB.o hb1);clear hb1;generalize wr.heap.size=b5 at *;have y0:=HY.o.cell (i:=0) rfl;have y1:=HY.o.cell (i:=1) rfl;have o2:=HO.o.cell (i:=2) rfl
  have eG:=(aj v1.heap.size v1).alloc (ag _) (.cells #[.int .i64 num,.slice CD keys.length CG] 89);have FD:=zh (HO.o.bb eG);have lS:=zh (zE j_.o eG);have Q0:=zh (HZ.o.bb eG);have h_:=zh (zA HB.o eG);have rJ:=ak HS.o eG.size;clear eG HO j_ HZ HB HS HY;go_wp2_with (at_builtin;go_must (refine zP (n:=k) (m:=1) rfl (.tmp 23) (.tmp 29) 68 rfl wJ B rfl lS.o rfl (Rd.jR v1.heap.size v1 rfl 2 [.int .i64 num,.slice CD keys.length CG] 89 1 rfl (by decide)) (fun u hu=>by simp only[bp,bt,bu] at hu;rcases hu with h|h<;>rw[h]<;>rfl) (by unfold maxLen;omega) (by omega) rJ ?_);intro v3 w3 eB eW hv3;clear hv3;obtain ⟨oa,oc,ev,_,_,_⟩:=zG eB;subst ev;have EZ:=fM.row lS.o eW (ag B);have iA:=FD.o.fC EZ (by decide);have c2:=iA.cell (i:=2) rfl;have f2:=iA.frozen 2)
  have Rh:eu (w3.setCell ⟨b3,2,none⟩ (.slice oa (k+1) oc)) b3 #[.bool eH,.int .i64 take,.slice oa (k+1) oc,.slice na nn nc,.slice ra rn rc] 71:=by
   have h:=iA.set 2 (.slice oa (k+1) oc);simp only[aJ,aK,aI] at h;exact h
  have jl:=zh Rh
  have nD:=zh (show (w3.setCell ⟨b3,2,none⟩ (.slice oa (k+1) oc)).ownsRow B 89 2 (.slice oa (k+1) oc) (k+1) ((ks.take (k+1)).flatMap iy) from by
   rw[HT.o]
   exact xY (b:=b3) (by omega) eB [(2,.slice oa (k+1) oc)])
  have HZ9:Hid (eu (w3.setCell ⟨b3,2,none⟩ (.slice oa (k+1) oc)) c4 #[.bool false,.int .i64 0,.slice none 0 0,.slice none 0 0,.slice none 0 0] 71):=zh (eu.eL (c:=b3) (by omega) [(2,.slice oa (k+1) oc)] (Q0.o.fC EZ (by decide)))
  have HS9:=zh (show B<=(w3.setCell ⟨b3,2,none⟩ (.slice oa (k+1) oc)).heap.size from by
   have h:=eW.size
   have h2:(w3.setCell ⟨b3,2,none⟩ (.slice oa (k+1) oc)).heap.size=w3.heap.size:=by simp[World.setCell]
   omega)
  have jL:=zh (zC (B:=w.heap.size) (b:=b3) (by omega) [(2,.slice oa (k+1) oc)] (h_.o.grown eW (by omega) (fun j hj=>ak (by omega) ((lS.o.lt j hj).1))));change Hid (Below w.heap.size w (w3.setCell ⟨b3,2,none⟩ (.slice oa (k+1) oc))) at jL;clear eB eW iA EZ c2 f2 Rh y0 y1 o2 FD lS Q0 h_;go_wp2_with fail;exact ⟨⟨k+1,oa,oc,by go_num,by omega,jl,nD,HZ9,HS9,jL⟩,by simp[intOf];omega⟩
 have i1:¬ (k:Int)<(ks.length:Int):=by omega
 obtain rfl:k=ks.length:=by omega
 have eN:=zh (zC (B:=w.heap.size) (b:=c4) (by omega) (wX eH take (.slice a ks.length c) (.slice na nn nc) (.slice ra rn rc)) HB.o);have E6:=zh (eu.sets (wX eH take (.slice a ks.length c) (.slice na nn nc) (.slice ra rn rc)) HZ.o)
 have jB:=zh (show jF (pts wr c4 (wX eH take (.slice a ks.length c) (.slice na nn nc) (.slice ra rn rc))) P (.slice a ks.length c) ks (.slice na nn nc) es (.slice ra rn rc) from
  have h:=HH.o.bb eN.o
  ⟨⟨⟨fun x _=>xV x,by have h:=zr (xY (b:=c4) (by omega) j_.o (wX eH take (.slice a ks.length c) (.slice na nn nc) (.slice ra rn rc)));rwa [aS (ag _)] at h⟩,h.k.keys⟩,h.kk,h.n,h.nn,h.r⟩)
 have o0:=HO.o.cell (i:=0) rfl;have o1:=HO.o.cell (i:=1) rfl;have o2:=HO.o.cell (i:=2) rfl;have o3:=HO.o.cell (i:=3) rfl;have o4:=HO.o.cell (i:=4) rfl;have z0:=HZ.o.cell (i:=0) rfl;have z1:=HZ.o.cell (i:=1) rfl;have z2:=HZ.o.cell (i:=2) rfl;have z3:=HZ.o.cell (i:=3) rfl;have z4:=HZ.o.cell (i:=4) rfl;have zf:=HZ.o.frozen;go_wp2_with fail;change bodyPost _ _ _ _ _ (pts wr c4 (wX eH take (.slice a ks.length c) (.slice na nn nc) (.slice ra rn rc)));clear o0 o1 o2 o3 o4 z0 z1 z2 z3 z4 zf HO HZ j_;generalize pts wr c4 (wX eH take (.slice a ks.length c) (.slice na nn nc) (.slice ra rn rc))=w9 at *;have z0:=E6.o.cell (i:=0) (u:=.bool eH) (by simp);have z1:=E6.o.cell (i:=1) (u:=.int .i64 take) (by simp);have z2:=E6.o.cell (i:=2) (u:=.slice a ks.length c) (by simp)
 have z3:=E6.o.cell (i:=3) (u:=.slice na nn nc) (by simp);have z4:=E6.o.cell (i:=4) (u:=.slice ra rn rc) (by simp);exact au (v:=.agg #[.bool eH,.int .i64 take,.slice a ks.length c,.slice na nn nc,.slice ra rn rc]) (by simp[results,results38,go_sem,z0,z1,z2,z3,z4]) rfl ⟨a,c,rfl,jB.o,eN.o⟩
def zGY (eH:Bool) (tk:Int) (kv nv rv:Value) (es:List (Nd×Value)) (w:World) (EV:∃ a n c,kv=.slice a n c) (DI:∃ a n c,rv=.slice a n c) (h:mJ w nv es) (El:∀ p∈es,p.1.Wf) (hs:es.length<=200) :
  Calls prog 39 #[tF eH tk kv nv rv] w fun e w'=>(∃ bv,e=.returned (.tuple #[bv,.int .i64 (xh (es.map (·.1))).1])/\lR w' w.heap.size bv (xh (es.map (·.1))).2)/\Below w.heap.size w w':=by
 obtain ⟨ka,kn,kc,rfl⟩:=EV;obtain ⟨ra,rn,rc,rfl⟩:=DI;obtain ⟨a,cap,rfl,h1,h2⟩:=h.shape;have eP:Hid (Below w.heap.size w (w.alloc (.cells (wV eH tk (.slice ka kn kc) (.slice a es.length cap) (.slice ra rn rc)) 78))):=zh ((aj _ _).alloc (ag _) _);have I3:=zh h;have HK:=zh El;have HM:Hid (∀ j,j<es.length->yw es j∈es):=zh (fun j=>vh);have HS:Hid (∀ j,j<es.length->wD ((es.map (·.1)).take (j+1))=wD ((es.map (·.1)).take j)++kH (yw es j).1):=zh (fun j hj=>by rw[tO hj,zBJ])
 have pI:=zh (show ∀ j,j<es.length->(∀ x∈(es.map (·.1)).take j,x.ok)->(yw es j).1.ok->∀ x∈(es.map (·.1)).take (j+1),x.ok from fun j hj h1 h2 x hx=>by
  rw[tO hj] at hx
  rcases List.mem_append.1 hx with hx|hx
  ·exact h1 x hx
  obtain rfl:=List.mem_singleton.1 hx;exact h2)
 have MR:=zh (show ∀ j,j<es.length->(∀ x∈(es.map (·.1)).take j,x.ok)->¬ (yw es j).1.ok->xh (es.map (·.1))=(Em (yw es j).1,[]) from fun j hj h1 h2=>by
  rw[<- zDZ] at h2 |-
  exact kr (by rw[aH];exact hj) h1 h2)
 have Ay:=zh (show (∀ x∈(es.map (·.1)).take es.length,x.ok)->xh (es.map (·.1))=(0,wD ((es.map (·.1)).take es.length)) from fun h=>by
  rw[aS (by rw[aH];exact ag _)] at h |-
  exact YT h)
 have Bl:=zh (show ∀ j,j<=es.length->(∀ x∈(es.map (·.1)).take j,x.ok)->(wD ((es.map (·.1)).take j)).length<=4128*j from fun j hj h=>by
  have:=zDR h
  rw[aB,aH,bY hj] at this
  exact this)
 clear h El;have HP:=zh (eu.new w (wV eH tk (.slice ka kn kc) (.slice a es.length cap) (.slice ra rn rc)) 78);generalize hn:es.length=n at *;clear hn;generalize es.map (·.1)=K at *;generalize xh K=R at *
 go_enter func39,ntmps39
 go_upto_region 1 with fail;change Code.wp _ _ _ _ (w.alloc (.cells (wV eH tk (.slice ka kn kc) (.slice a n cap) (.slice ra rn rc)) 78));generalize w.alloc (.cells (wV eH tk (.slice ka kn kc) (.slice a n cap) (.slice ra rn rc)) 78)=W0 at *;go_wp2_with fail
 go_loopw [4,5] (fun ov iv W=>∃ (k m:Nat),iv=.int .i64 (k:Int)/\k<=n/\m<=1000000/\Hid (m=(wD (K.take k)).length)/\Hid (∀ x∈K.take k,x.ok)/\Hid (W.ownsRow w.heap.size 5 1 ov m ((wD (K.take k)).map yy))/\Hid (eu W w.heap.size (wV eH tk (.slice ka kn kc) (.slice a n cap) (.slice ra rn rc)) 78)/\Hid (Below w.heap.size w W)) (fun _ iv _=>n-(intOf iv).toNat)
 case atStart=>exact ⟨0,0,rfl,aq _,aq _,zh rfl,zh (fun x hx=>by cases hx),zh (aP _ _ _ _),HP,eP⟩
 clear eP HP;obtain ⟨k,m,rfl,hk,hm,YU,ig,rM,HP,HB⟩:=hrel;have hsz:=HB.o.size;have p3:=HP.o.cell (i:=3) rfl
 by_cases hlt:k<n
 ·have i1:(k:Int)<(n:Int):=by omega
  have hr:=I3.o.bb HB.o;obtain ⟨pb,F5,rfl,hx,c0,c1,c2,c3⟩:=hr.at hlt;have MT:=HK.o _ (HM.o k hlt);have pq:=zh (HS.o k hlt);have ja:=zh (pI.o k hlt ig.o);have eV:=zh (MR.o k hlt ig.o);clear hr;generalize yw es k=X at *;obtain ⟨x,dv⟩:=X;dsimp only at *;obtain ⟨da,dc,rfl,_,_⟩:=hx.fO
  by_cases hok:x.ok
  ·have nA:=zh (fun W (hb:Below wr.heap.size wr W)=>zI1 x (.slice da x.data.length dc) W hok MT (il.bb hx hb));have Q8:=zh (qC x);have hNb:=xZ x.data.length;have hx1:=hok.1;have gp:=zh (ja.o hok);have MU:=zh (Bl.o (k+1) hlt gp.o);clear ja eV MT hok hx;have sS:=zh (nA.o wr (aj _ _));clear nA;generalize lu:x.data.length=dn at *;clear lu;generalize nh dn=s at *;go_wp2_with fail;refine sS.o.mono ?_;rintro e w3 ⟨v3,rfl,eB,hb3⟩;clear c0 c1 c2 c3 p3;have CB:=zh (zE rM.o hb3);replace HP:=zh (HP.o.bb hb3);have f_:=zh (zA HB.o hb3);have hs3:=f_.o.size;have ng:Hid (Rd w3 1 v3 s ((kH x).map yy)):=zh (by have:=eB.rd;unfold ll il at this;rw[Q8.o] at this;exact this);obtain ⟨oa,oc,rfl,_⟩:=zG eB;clear eB hb3 rM HB sS;obtain ⟨ob,obc,rfl,_⟩:=zG CB.o
   go_wp2_with (at_builtin;go_must (refine zP (n:=m) (m:=s) rfl (.tmp 27) (.tmp 28) 54 rfl vv w.heap.size rfl CB.o rfl ng.o (xJ _) (by unfold maxLen;omega) (by omega) hs3 ?_);intro v4 w4 fw gI hv4;clear hv4);have HP4:=zh (HP.o.fC (fM.row CB.o gI (ag _)) (by decide));have gq:=zh (zK f_.o CB.o hs3 gI);have iP:Hid (w4.ownsRow w.heap.size 5 1 v4 (m+s) ((wD (K.take (k+1))).map yy)):=zh (by rw[pq.o,aU];exact fw);have jb:=zh (show m+s=(wD (K.take (k+1))).length by rw[pq.o,ax,Q8.o,<- YU.o]);have hm4:m+s<=1000000:=by have h5:=MU.o;rw[<- jb.o] at h5;omega
   clear fw gI;go_wp2_with fail;exact ⟨⟨k+1,m+s,by go_num,by omega,hm4,jb,gp,iP,HP4,gq⟩,by simp[intOf];omega⟩
  have nA:=zh (fun W (hb:Below wr.heap.size wr W)=>zEe x (.slice da x.data.length dc) W hok (il.bb hx hb));have hR:=eV.o hok;have hne:=YS x;clear ja eV hx MT hok rM;subst hR;have sS:=zh (nA.o wr (aj _ _));clear nA;generalize lu:x.data.length=dn at *;clear lu;have hz:(Em x==0)=false:=beq_eq_false_iff_ne.2 hne;go_wp2_with fail;refine sS.o.mono ?_;rintro e w3 ⟨rfl,hb3⟩;have f_:=zh (zA HB.o hb3);clear c0 c1 c2 c3 hb3 sS p3 HP;go_wp2_with fail;go_ret2;exact ⟨⟨.slice none 0 0,rfl,aP _ _ _ _⟩,f_.o⟩
 obtain rfl:k=n:=by omega
 have hR:=Ay.o ig.o;subst hR;go_wp2_with fail;go_ret2;exact ⟨⟨_,rfl,vz rM.o rfl⟩,HB.o⟩
def zFr (w:World) (i l:Int) (r:Bool) (a:Option Addr) (n c:Nat) (P5:Array Value) (t u v:TypeId):∃ W,((w.alloc (.cells (zM i l r a n c) t)).alloc (.cells P5 u)).alloc (.cells (zM 0 0 false none 0 0) v)=W/\eu W w.heap.size (zM i l r a n c) t/\eu W (w.heap.size+1) P5 u/\eu W (w.heap.size+1+1) (zM 0 0 false none 0 0) v/\Below w.heap.size w W:=by
 have h1:=zR w i l r a n c t;have h2:=(aj (w.alloc (.cells (zM i l r a n c) t)).heap.size (w.alloc (.cells (zM i l r a n c) t))).alloc (ag _) (.cells P5 u);have h3:=zR ((w.alloc (.cells (zM i l r a n c) t)).alloc (.cells P5 u)) 0 0 false none 0 0 v;refine ⟨_,rfl,((eu.new w _ t).bb h2).bb h3,?_,?_,zA (zA h1 h2) h3⟩
 ·have:=(eu.new (w.alloc (.cells (zM i l r a n c) t)) P5 u).bb h3
  rwa [cm] at this
 have:=eu.new ((w.alloc (.cells (zM i l r a n c) t)).alloc (.cells P5 u)) (zM 0 0 false none 0 0) v
 rwa [cm,cm] at this
def fB.Y6 {W:World} {b:Nat} {t:TypeId} {n' r md z:Int} {s:Sl} {l g:Int} {a:Option Addr} {n c:Nat} {L:List GP} (h:fB W (.slice a n c) L) (hne:∀ x,a=some x->x.block≠b) (hb:eu W b (zU n' r md z s l g) t) (vs:List (Nat×Value)):fB (pts W b vs) (.slice a n c) L:=by
 refine ⟨⟨h.r.1,?_⟩,fun p hp=>(h.m p hp).gen hb vs⟩;obtain ⟨h1,a',cap,e,h3,h4,h5,h6⟩:=h.r.2;injection e with e1 e2 e3;subst e1 e2 e3;refine ⟨h1,_,_,rfl,h3,h4,h5,fun hp=>?_⟩;obtain ⟨b',off,e2,hc⟩:=h6 hp;exact ⟨b',off,e2,fun j u hu=>(yB (p:=⟨b',off+j,none⟩) (show b'≠b from hne _ e2) vs W).trans (hc j u hu)⟩
def fB.lo {W:World} {a:Option Addr} {n c:Nat} {L:List GP} (h:fB W (.slice a n c) L) (hn:0<n):∀ x,a=some x->x.block<W.heap.size:=by
 obtain ⟨h1,a',cap,e,h3,h4,h5,h6⟩:=h.r.2;injection e with e1 e2 e3;subst e1;intro x hx;obtain ⟨b',off,e4,hc⟩:=h6 (by rw[h1];omega);rw[hx] at e4;injection e4 with e4;subst e4;have hl:0<(L.flatMap iM).length:=by rw[h1];omega
 exact bW W _ (hc 0 _ (aA hl))
def zGV (s:fk) (a:Option Addr) (n c:Nat) (L:List GP) (eH:Bool) (tk:Int) (kv nv rv:Value) (ks:List KP) (es:List (Nd×Value)) (w:World) (h:fB w (.slice a n c) L) (hg:ey L=s.ep) (hl:fF 700 s.ep) (hn:n<=1000000)
  (hk:rN w kv ks) (hkl:∀ p∈ks,p.2.2.length<=1000) (hnd:mJ w nv es) (hel:es.length<=300) (DI:∃ a n c,rv=.slice a n c) :
  Calls prog 31 #[zQ s.id s.lim s.ro a n c,tF eH tk kv nv rv] w (iY w (vP s eH (gV ks) (es.map (·.1)))):=by
 obtain ⟨ra,rn,rc,rfl⟩:=DI;obtain ⟨ka,kc,rfl,nw,hk2⟩:=hk.shape;obtain ⟨na,nc,rfl,_,_⟩:=hnd.shape;obtain ⟨i,l,r,g⟩:=s;dsimp only at hg hl |-;subst hg;have fT:L.length=n:=by
  obtain ⟨_,_,e,_⟩:=h.shape;injection e with _ e _;exact e.symm
 have hm:(gV ks).length=ks.length:=xx ks;have hmx:ks.length<=9223372036854775807:=ak nw hk2;have JB:=zh hk;have F7:=zh hnd;have HL:=zh hl;have u_:=zh hkl;have iZ:=zh (show (ey L).length=n by rw[zk,fT]);generalize Ri:vP ⟨i,l,r,ey L⟩ eH (gV ks) (es.map (·.1))=AP at *;have J8:=zh Ri;obtain ⟨W0,hW0,fJ,J2,nE,fS⟩:=zFr w i l r a n c (wV eH tk (.slice ka ks.length kc) (.slice na es.length nc) (.slice ra rn rc)) 27 71 27;have HX:=zh fJ;have iu:=zh J2;have HZ:=zh nE;have HB:=zh fS;have HR:=zh (h.bb fS);have j_:=zh h;clear h hk hnd hl hkl Ri fJ J2 nE fS nw hk2 fT
 go_enter func31,ntmps31
 go_upto_region 1 with fail;clear hW0;have HT:=zh (zHY i l r a n c L W0 HR.o (yx (HL.o.mono (by decide)) (ag _)));obtain ⟨k0,k1,k2,k3⟩:=(eu.g_ HX.o).q
 by_cases hv:zb ⟨i,l,r,ey L⟩=true
 ·have hV:=(zX _).1 hv;have hn0:0<n:=by have:=hV.len;dsimp only at this;rw[iZ.o] at this;omega
  rw[show wU ⟨i,l,r,ey L⟩=(0,zZ ⟨i,l,r,ey L⟩) from Xa hV] at HT;have G0:Hid (∀ j,j<8->((zZ ⟨i,l,r,ey L⟩).m.st j).length<=700):=zh (HL.o _ (vr hV))
  have pX:=zh (show AP=if eH=true then xb ⟨i,l,r,ey L⟩ else if (yC (gV ks) ⟨i,l,r,ey L⟩).2=0 then (if (yZ (zZ ⟨i,l,r,ey L⟩) (es.map (·.1))).1=0 then yS (yC (gV ks) ⟨i,l,r,ey L⟩).1 (yZ (zZ ⟨i,l,r,ey L⟩) (es.map (·.1))).2 else (yq,(yZ (zZ ⟨i,l,r,ey L⟩) (es.map (·.1))).1)) else (yq,(yC (gV ks) ⟨i,l,r,ey L⟩).2) from by
   rw[<- J8.o];unfold vP;rw[ah hv])
  clear hV hv J8;generalize zZ ⟨i,l,r,ey L⟩=tg at *;obtain ⟨tn,tr,tm,tz,⟨tf,tL,tG⟩⟩:=tg;dsimp only at HT G0;go_wp2_with fail;refine HT.o.mono ?_;rintro e w1 ⟨⟨sT,rfl,ho⟩,hb⟩;dsimp only at ho |-;clear k0 k1 k2 k3;replace HX:=zh (HX.o.bb hb);replace iu:=zh (iu.o.bb hb);replace HZ:=zh (HZ.o.bb hb);replace HR:=zh (HR.o.bb hb);replace HB:=zh (zA HB.o hb);have BZ:Hid (fN w1 sT tf):=zh (ho.rd);have Rj:=HZ.o.lt;have HNa:=zh (fun x hx=>Nat.lt_trans (j_.o.lo hn0 x hx) (show w.heap.size<w1.heap.size by omega));clear ho hb HT;go_upto_region 2 with fail;change Code.wp _ _ _ _ (w1.alloc (.cells (zU tn tr tm tz sT tL tG) 38));obtain ⟨w2,hV,fq,HG⟩:=dY w1 (zU tn tr tm tz sT tL tG) 38;rw[hV];clear hV;replace BZ:=zh (BZ.o.bb fq);replace HX:=zh (HX.o.bb fq);replace iu:=zh (iu.o.bb fq)
  replace HZ:=zh (HZ.o.bb fq);replace HR:=zh (HR.o.bb fq);replace HB:=zh (zA HB.o fq);clear fq;generalize w1.heap.size=bG at *;have p0:w2.cell? ⟨w.heap.size+1,0,none⟩=some (.bool eH):=eu.cell iu.o rfl
  cases eH
  ·have oB:=zh (pX.o.trans (ai (by decide)));clear pX;have p2:w2.cell? ⟨w.heap.size+1,2,none⟩=some (.slice ka ks.length kc):=eu.cell iu.o rfl;go_wp2_with fail;clear p0 p2
   go_loopw [30] (fun iv V=>∃ (k:Nat) (t:fk) (a':Option Addr) (n' c':Nat) (L':List GP),iv=.int .i64 (k:Int)/\k<=ks.length/\Hid (yC ((gV ks).take k) ⟨i,l,r,ey L⟩=(t,0))/\Hid (eu V w.heap.size (zM t.id t.lim t.ro a' n' c') 27)/\Hid (fB V (.slice a' n' c') L')/\Hid (ey L'=t.ep)/\Hid (∀ x,a'=some x->x.block≠bG)/\Hid (eu V bG (zU tn tr tm tz sT tL tG) 38)/\Hid (fN V sT tf)/\Hid (eu V (w.heap.size+1) (wV false tk (.slice ka ks.length kc) (.slice na es.length nc) (.slice ra rn rc)) 71)/\Hid (eu V (w.heap.size+1+1) (zM 0 0 false none 0 0) 27)/\Hid (Below w.heap.size w V)) (fun iv _=>ks.length-(intOf iv).toNat)
   case atStart=>exact ⟨0,⟨i,l,r,ey L⟩,a,n,c,L,rfl,aq _,zh rfl,HX,HR,zh rfl,zh (fun x hx=>Nat.ne_of_lt (HNa.o x hx)),HG,BZ,iu,HZ,HB⟩
   clear HX HR HG BZ iu HZ HB;obtain ⟨k,t,a',n',c',L',rfl,Fa,CQ,HX,HR,FI,HNb,HG,BZ,iu,HZ,HB⟩:=hrel
   have I6:=zh (show fF 700 t.ep from by
    have:=kt ((gV ks).take k) ⟨i,l,r,ey L⟩ HL.o
    rw[CQ.o] at this;exact this)
   have hn':n'<=1000000:=by
    have h1:=zDk ((gV ks).take k) ⟨i,l,r,ey L⟩;rw[CQ.o] at h1;dsimp only at h1;obtain ⟨_,_,e,_⟩:=HR.o.shape;injection e with _ e _;rw[<- FI.o,zk,iZ.o] at h1;omega
   by_cases hlt:k<ks.length
   ·have i1:(k:Int)<(ks.length:Int):=by omega
    obtain ⟨bk,ok,rfl,hU,c0,c1⟩:=(JB.o.bb HB.o).at hlt;have E8:=u_.o _ (Y3 hlt);have pq:=zh (fun h2=>zBU (l:=gV ks) (k:=k) (by rw[hm];exact hlt) (s:=⟨i,l,r,ey L⟩) (by rw[CQ.o]) h2);have sx:=zh (fun h2=>zCo (l:=gV ks) (k:=k) (by rw[hm];exact hlt) (s:=⟨i,l,r,ey L⟩) (by rw[CQ.o]) h2);rw[CQ.o,zEw] at pq sx;dsimp only at pq sx;generalize iG ks k=kp at *;obtain ⟨num,T1,keys⟩:=kp;dsimp only at hU c0 c1 E8 pq sx;obtain ⟨CD,CG,rfl,_,_⟩:=hU.fO;have HU:=zh hU;clear hU;go_upto_region 9 with fail;clear c0 c1;change Code.wp _ _ _ _ (.alloc _ (.cells _ 89));obtain ⟨v0,hV,fq,CH⟩:=dY wr #[.int .i64 num,.slice CD keys.length CG] 89;rw[hV];clear hV;replace HU:=zh (il.bb HU.o fq);replace HR:=zh (HR.o.bb fq);replace HX:=zh (HX.o.bb fq);replace iu:=zh (iu.o.bb fq)
    replace HZ:=zh (HZ.o.bb fq);replace HG:=zh (HG.o.bb fq);replace BZ:=zh (BZ.o.bb fq);replace HB:=zh (zA HB.o fq);clear fq;generalize wr.heap.size=b9 at *;have Ad:=zh (zDV t a' n' c' L' v0 HR.o FI.o (I6.o.mono (by decide)) hn' num (.slice CD keys.length CG) keys HU.o E8);have y0:v0.cell? ⟨b9,0,none⟩=some (.int .i64 num):=eu.cell CH.o rfl;have y1:v0.cell? ⟨b9,1,none⟩=some (.slice CD keys.length CG):=eu.cell CH.o rfl;obtain ⟨k0,k1,k2,k3⟩:=(eu.g_ HX.o).q;generalize yK t num keys=KS at *;obtain ⟨⟨ui,ul,ur,ug⟩,ue⟩:=KS;go_wp2_with fail;refine Ad.o.mono ?_;rintro e v1 ⟨⟨xa,xn,xc,xL,rfl,LR,ou⟩,hb⟩;dsimp only at ou pq sx |-;clear y0 y1 k0 k1 k2 k3 CH HU Ad;have mj:=zh LR.rd
    have HNx:=zh (show ∀ x,xa=some x->x.block≠bG from fun x hx=>by
     have h9:=(LR.row.lt x.block (by rw[hx];rfl)).1
     have h8:=HG.o.lt
     omega)
    have gZ:=zh ou;replace HX:=zh (HX.o.bb hb);replace iu:=zh (iu.o.bb hb);replace HZ:=zh (HZ.o.bb hb);replace HG:=zh (HG.o.bb hb);replace BZ:=zh (BZ.o.bb hb);replace HB:=zh (zA HB.o hb);clear hb LR ou HR;obtain ⟨k0,k1,k2,k3⟩:=(eu.g_ HX.o).q;have kf:=(eu.g_ HX.o).f;go_upto_region 10 with fail;clear k0 k1 k2 k3 kf;change Code.wp _ _ _ _ (pts v1 w.heap.size (zI ui ul ur xa xn xc));have fG:=zh (eu.mV HX.o ui ul ur xa xn xc);replace mj:=zh (fB.g_ mj.o HX.o (zI ui ul ur xa xn xc));replace BZ:=zh (fN.g_ BZ.o HX.o (zI ui ul ur xa xn xc));replace HG:=zh (eu.eL (c:=w.heap.size) (by omega) (zI ui ul ur xa xn xc) HG.o);replace iu:=zh (eu.eL (c:=w.heap.size) (by omega) (zI ui ul ur xa xn xc) iu.o);replace HZ:=zh (eu.eL (c:=w.heap.size) (by omega) (zI ui ul ur xa xn xc) HZ.o)
    replace HB:=zh (zC (B:=w.heap.size) (b:=w.heap.size) (ag _) (zI ui ul ur xa xn xc) HB.o);clear HX;generalize pts v1 w.heap.size (zI ui ul ur xa xn xc)=v2 at *
    by_cases J9:ue=0
    ·subst J9;have Y7:=zh (pq.o rfl);go_wp2_with fail;exact ⟨⟨k+1,⟨ui,ul,ur,ug⟩,xa,xn,xc,xL,by go_num,by omega,Y7,fG,mj,gZ,HNx,HG,BZ,iu,HZ,HB⟩,by simp[intOf];omega⟩
    have hz:(ue==0)=false:=beq_eq_false_iff_ne.2 J9;have o_:Hid (AP=(yq,ue)):=zh (by rw[oB.o,sx.o J9];exact ai J9);have jW:=zh (eu.g_ HZ.o);obtain ⟨z0,z1,z2,z3⟩:=jW.o.q;have zf:=jW.o.f;go_wp2_with fail;change bodyPost _ _ _ _ _ (pts v2 (w.heap.size+1+1) (zI 0 0 false none 0 0));have hby:=jW.o.all 0 0 false none 0 0;have eN:=zh (zC (B:=w.heap.size) (b:=(w.heap.size+1+1)) (by omega) (zI 0 0 false none 0 0) HB.o);generalize pts v2 (w.heap.size+1+1) (zI 0 0 false none 0 0)=V at *;exact au (v:=.tuple #[zQ 0 0 false none 0 0,.int .i64 ue]) (by simp[results,results31,go_sem,hby.c0,hby.c1,hby.c2,hby.c3]) rfl (by rw[o_.o];exact iY.no eN.o)
   have i1:¬ (k:Int)<(ks.length:Int):=by omega
   have hke:(gV ks).take k=gV ks:=aS (by rw[hm];omega)
   have o_:=zh (show AP=if (yZ ⟨tn,tr,tm,tz,⟨tf,tL,tG⟩⟩ (es.map (·.1))).1=0 then yS t (yZ ⟨tn,tr,tm,tz,⟨tf,tL,tG⟩⟩ (es.map (·.1))).2 else (yq,(yZ ⟨tn,tr,tm,tz,⟨tf,tL,tG⟩⟩ (es.map (·.1))).1) from by
    have h1:=CQ.o
    rw[hke] at h1
    rw[oB.o,h1];exact ah rfl)
   clear oB CQ hke;have lL:=zh (fun W (hb:Below wr.heap.size wr W)=>zH4 ⟨tn,tr,tm,tz,⟨tf,tL,tG⟩⟩ sT (.slice na es.length nc) es 700 W (BZ.o.bb hb) G0.o ((F7.o.bb HB.o).bb hb) (by omega));have EG:Hid (∀ j,j<8->((yZ ⟨tn,tr,tm,tz,⟨tf,tL,tG⟩⟩ (es.map (·.1))).2.m.st j).length<=10000):=zh (fun j hj=>ak (uF (K:=700) (g:=⟨tn,tr,tm,tz,⟨tf,tL,tG⟩⟩) (l:=es.map (·.1)) G0.o j hj) (by rw[aH];omega));generalize yZ ⟨tn,tr,tm,tz,⟨tf,tL,tG⟩⟩ (es.map (·.1))=AG at *;obtain ⟨ae,⟨gn,gr,gm,gz,⟨gf,gL,gG⟩⟩⟩:=AG;dsimp only at lL EG o_;replace lL:=zh (lL.o wr (aj _ _));have p3:wr.cell? ⟨w.heap.size+1,3,none⟩=some (.slice na es.length nc):=eu.cell iu.o rfl;obtain ⟨g0,g1,g2,g3,g4,g5,g6,g7,g8,g9,g10,g11,g12,g13⟩:=(eu.gen HG.o).q;go_wp2_with fail;refine lL.o.mono ?_;rintro e v1 ⟨⟨s9,rfl,ho⟩,hb⟩
   dsimp only at ho |-;clear p3;clear g0 g1 g2 g3 g4 g5 g6 g7 g8 g9 g10 g11 g12 g13;replace HR:=zh (HR.o.bb hb);replace HX:=zh (HX.o.bb hb);replace HZ:=zh (HZ.o.bb hb);replace HG:=zh (HG.o.bb hb);replace HB:=zh (zA HB.o hb);have BA:Hid (fN v1 s9 gf):=zh (ho.rd);clear ho hb lL BZ iu;have gff:=(eu.gen HG.o).f;obtain ⟨g0,g1,g2,g3,g4,g5,g6,g7,g8,g9,g10,g11,g12,g13⟩:=(eu.gen HG.o).q;go_upto_region 14 with fail;clear gff;clear g0 g1 g2 g3 g4 g5 g6 g7 g8 g9 g10 g11 g12 g13;change Code.wp _ _ _ _ (pts v1 bG (zS gn gr gm gz s9 gL gG));have rG:=zh (eu.pP HG.o gn gr gm gz s9 gL gG);replace BA:=zh (fN.gen BA.o HG.o (zS gn gr gm gz s9 gL gG));replace HR:=zh (fB.Y6 HR.o HNb.o HG.o (zS gn gr gm gz s9 gL gG));replace HX:=zh (eu.eL (c:=bG) (by omega) (zS gn gr gm gz s9 gL gG) HX.o)
   replace HZ:=zh (eu.eL (c:=bG) (by omega) (zS gn gr gm gz s9 gL gG) HZ.o);replace HB:=zh (zC (B:=w.heap.size) (b:=bG) (by omega) (zS gn gr gm gz s9 gL gG) HB.o);clear HG;generalize pts v1 bG (zS gn gr gm gz s9 gL gG)=v2 at *
   by_cases MW:ae=0
   ·subst MW;have En:=zh (o_.o.trans (ah rfl));clear o_;obtain ⟨ti,tl,FK,Rk⟩:=t;dsimp only at FI HX En;obtain rfl:Rk=ey L':=FI.o.symm;have nR:=zh (zFO ti tl FK a' n' c' L' v2 HR.o (yx (I6.o.mono (by decide)) (ag _)) (⟨gn,gr,gm,gz,⟨gf,gL,gG⟩⟩,s9) BA.o EG.o);dsimp only at nR;generalize yS ⟨ti,tl,FK,ey L'⟩ ⟨gn,gr,gm,gz,⟨gf,gL,gG⟩⟩=CS at *;obtain ⟨⟨ci,cl,cr,cg⟩,ce⟩:=CS;obtain ⟨g0,g1,g2,g3,g4,g5,g6,g7,g8,g9,g10,g11,g12,g13⟩:=(eu.gen rG.o).q;obtain ⟨k0,k1,k2,k3⟩:=(eu.g_ HX.o).q;go_wp2_with fail;refine nR.o.mono ?_;rintro e v3 ⟨⟨xa,xn,xc,xL,rfl,LR,ou⟩,hb⟩;dsimp only at ou |-;clear k0 k1 k2 k3;clear g0 g1 g2 g3 g4 g5 g6 g7 g8 g9 g10 g11 g12 g13;have mj:=zh LR.rd;have gZ:=zh ou;replace HZ:=zh (HZ.o.bb hb);replace HB:=zh (zA HB.o hb);clear hb LR ou nR rG BA;have jW:=zh (eu.g_ HZ.o)
    obtain ⟨z0,z1,z2,z3⟩:=jW.o.q;have zf:=jW.o.f;go_wp2_with fail;change bodyPost _ _ _ _ _ (pts v3 (w.heap.size+1+1) (zI ci cl cr xa xn xc));have rR:=zh (fB.g_ mj.o HZ.o (zI ci cl cr xa xn xc));have hby:=jW.o.all ci cl cr xa xn xc;have eN:=zh (zC (B:=w.heap.size) (b:=(w.heap.size+1+1)) (by omega) (zI ci cl cr xa xn xc) HB.o);generalize pts v3 (w.heap.size+1+1) (zI ci cl cr xa xn xc)=V at *;exact au (v:=.tuple #[zQ ci cl cr xa xn xc,.int .i64 ce]) (by simp[results,results31,go_sem,hby.c0,hby.c1,hby.c2,hby.c3]) rfl (by rw[En.o];exact ⟨⟨xa,xn,xc,xL,rfl,rR.o,gZ.o⟩,eN.o⟩)
   have hz:(ae==0)=false:=beq_eq_false_iff_ne.2 MW;have En:Hid (AP=(yq,ae)):=zh (o_.o.trans (ai MW));have jW:=zh (eu.g_ HZ.o);obtain ⟨z0,z1,z2,z3⟩:=jW.o.q;have zf:=jW.o.f;go_wp2_with fail;change bodyPost _ _ _ _ _ (pts v2 (w.heap.size+1+1) (zI 0 0 false none 0 0));have hby:=jW.o.all 0 0 false none 0 0;have eN:=zh (zC (B:=w.heap.size) (b:=(w.heap.size+1+1)) (by omega) (zI 0 0 false none 0 0) HB.o);generalize pts v2 (w.heap.size+1+1) (zI 0 0 false none 0 0)=V at *;exact au (v:=.tuple #[zQ 0 0 false none 0 0,.int .i64 ae]) (by simp[results,results31,go_sem,hby.c0,hby.c1,hby.c2,hby.c3]) rfl (by rw[En.o];exact iY.no eN.o)
  have oB:=zh (pX.o.trans (ah rfl));clear pX;have DF:=zh (zLF i l r a n c L w2 HR.o (yx (HL.o.mono (by decide)) (ag _)));obtain ⟨k0,k1,k2,k3⟩:=(eu.g_ HX.o).q;go_wp2_with fail;refine DF.o.mono ?_;rintro e w3 ⟨⟨xa,xn,xc,xL,rfl,CJ,ou⟩,hb⟩;clear k0 k1 k2 k3;generalize xb ⟨i,l,r,ey L⟩=RS at *;obtain ⟨⟨ri,rl,rr,rg⟩,re⟩:=RS;dsimp only at ou |-;have mj:=zh CJ;have gZ:=zh ou;replace HZ:=zh (HZ.o.bb hb);replace HB:=zh (zA HB.o hb);clear hb CJ ou;have jW:=zh (eu.g_ HZ.o);obtain ⟨z0,z1,z2,z3⟩:=jW.o.q;have zf:=jW.o.f;go_wp2_with fail;change bodyPost _ _ _ _ _ (pts w3 (w.heap.size+1+1) (zI ri rl rr xa xn xc));have rR:=zh (fB.g_ mj.o HZ.o (zI ri rl rr xa xn xc));have hby:=jW.o.all ri rl rr xa xn xc;have eN:=zh (zC (B:=w.heap.size) (b:=(w.heap.size+1+1)) (by omega) (zI ri rl rr xa xn xc) HB.o)
  generalize pts w3 (w.heap.size+1+1) (zI ri rl rr xa xn xc)=V at *;exact au (v:=.tuple #[zQ ri rl rr xa xn xc,.int .i64 re]) (by simp[results,results31,go_sem,hby.c0,hby.c1,hby.c2,hby.c3]) rfl (by rw[oB.o];exact ⟨⟨xa,xn,xc,xL,rfl,rR.o,gZ.o⟩,eN.o⟩)
 have pX:Hid (AP=(yq,1)):=zh (by rw[<- J8.o];unfold vP;rw[ai hv]);rw[show wU ⟨i,l,r,ey L⟩=(1,gX) from by unfold wU;rw[ai hv]] at HT;clear hv J8;go_wp2_with fail;refine HT.o.mono ?_;rintro e w1 ⟨⟨sT,rfl,ho⟩,hb⟩;dsimp only at ho |-;replace HZ:=zh (HZ.o.bb hb);replace HB:=zh (zA HB.o hb);clear ho hb HT k0 k1 k2 k3;go_upto_region 2 with fail;change Code.wp _ _ _ _ (w1.alloc (.cells (zU gX.num gX.rev gX.mode gX.size sT gX.m.live gX.m.ew) 38));have fq:=zT w1 gX.num gX.rev gX.mode gX.size sT gX.m.live gX.m.ew 38;replace HZ:=zh (HZ.o.bb fq);replace HB:=zh (zA HB.o fq);clear fq;generalize w1.alloc (.cells (zU gX.num gX.rev gX.mode gX.size sT gX.m.live gX.m.ew) 38)=w2 at *;have jW:=zh (eu.g_ HZ.o);obtain ⟨z0,z1,z2,z3⟩:=jW.o.q;have zf:=jW.o.f;go_wp2_with fail
 change bodyPost _ _ _ _ _ (pts w2 (w.heap.size+1+1) (zI 0 0 false none 0 0));have hby:=jW.o.all 0 0 false none 0 0;have eN:=zh (zC (B:=w.heap.size) (b:=(w.heap.size+1+1)) (by omega) (zI 0 0 false none 0 0) HB.o);generalize pts w2 (w.heap.size+1+1) (zI 0 0 false none 0 0)=V at *;exact au (v:=.tuple #[zQ 0 0 false none 0 0,.int .i64 1]) (by simp[results,results31,go_sem,hby.c0,hby.c1,hby.c2,hby.c3]) rfl (by rw[pX.o];exact iY.no eN.o)
def zOd (i l:Int) (r:Bool) (a:Option Addr) (n c:Nat) (L:List GP) (w:World) (h:fB w (.slice a n c) L) (hs:∀ p∈L,∀ j,j<8->(p.1.m.st j).length<=10000) :
  Calls prog 77 #[zQ i l r a n c] w (zN4 w (wU ⟨i,l,r,ey L⟩)):=
 (zNv i l r a n c L w h hs).mono fun e w' ⟨⟨s,e1,h1⟩,hb⟩=>⟨⟨s,e1,by
  rcases h1 with h1|⟨h1,h2⟩
  ·exact (h.bb hb).m _ h1
  rw[h1,h2];exact (fA.nil w' 0).rd⟩,hb⟩
def zOe {w:World} {B n':Nat} {a':Option Addr} {c':Nat} {L':List GP} (ho:w.ownsRow B 113 14 (.slice a' n' c') n' (L'.flatMap iM)):Rd w 14 (.slice a' n' c') L'.length (L'.flatMap iM):=by
 have h:=zr ho;obtain ⟨e,_⟩:=ho;rw[ye 14 iM _ (fun x _=>tJ x)] at e;rw[show n'=L'.length by omega] at h |-;exact h
def ea (i l:Int) (r:Bool) (a:Option Addr) (n c:Nat) (L:List GP) (w:World) (h:fB w (.slice a n c) L) (hs:∀ p∈L,∀ j,j<8->(p.1.m.st j).length<=10000) (y:GP) (hy:fN w y.2 y.1.m.st) (sK:∀ j,j<8->(y.1.m.st j).length<=10000) :
  Calls prog 44 #[zQ i l r a n c,ze y.1.num y.1.rev y.1.mode y.1.size y.2 y.1.m.live y.1.m.ew] w (iY w (yS ⟨i,l,r,ey L⟩ y.1)):=
 (zNX i l r a n c L w h hs y hy sK).mono fun e w' ⟨⟨a',n',c',L',e1,ho,hm,hg⟩,hb⟩=>⟨⟨a',n',c',L',e1,⟨⟨fun x _=>tJ x,zOe ho⟩,fun p hp=>by
  rcases hm p hp with h1|rfl
  ·exact (h.bb hb).m _ h1
  exact hy.bb hb⟩,hg⟩,hb⟩
end Go.Proofs.YtcgfilmmokmdjaaGreat
