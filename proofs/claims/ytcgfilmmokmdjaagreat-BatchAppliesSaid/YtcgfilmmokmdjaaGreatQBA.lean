import Derived.Test.YtcgfilmmokmdjaaGreatQAX
set_option linter.all false
set_option maxRecDepth 100000
set_option maxHeartbeats 32000000
namespace Go.Proofs.YtcgfilmmokmdjaaGreat
open Go.RowKit
/-! ### What Make answers there, in plain Lean -/
def nH:fk:=⟨0,9000,false,[fresh 1]⟩
def mZ:fg nH:=(zX _).1 (SG 0 9000 false (by decide))
def oz:Rq:=⟨0,1,1,0,[]⟩
def mf:Rq:=⟨0,2,1,0,[]⟩
def zMZ:(yE nH []).2=0/\(yE nH []).1.res=[]/\(yE nH []).1.needs.length=0:=by
 unfold yE;rw[ah ((zX _).2 mZ)];exact ⟨rfl,rfl,rfl⟩
def zKO:xA nH 0=true:=by
 unfold xA;rw[(zX _).2 mZ]
 rfl
def zCM:yI nH oz=0:=by
 unfold yI;rw[ai (by decide),ah (show xA nH ((oz.data.length:Nat):Int)=true from zKO)]
def zKE (key:Int):zl (zZ nH).m key=none:=by
 rw[<- Qz];have h:zN (zZ nH).m=[]:=zBI 1;rw[h];rfl
def zGT {t:fk} (h:fg t) (h1:t.ep.length=1) (key:Int):zd t key=[]:=by
 rw[zF3 h,h1];rfl
def zG0:xE nH mf=6:=by
 have h:yF nH (mf.key:Int)=[]:=by
  rw[W_ mZ,Xb mZ,zKE];rfl
 unfold xE;rw[h,ai (by simp)]
def zL0:(yE nH [mf]).2=0/\(yE nH [mf]).1.res=[6]/\(yE nH [mf]).1.needs.length=0:=by
 have h1:zq (wH nH) mf=(true,more (wH nH) 6):=k9 (by decide) rfl zG0;unfold yE;rw[ah ((zX _).2 mZ),vL (by rw[h1]),h1];exact ⟨rfl,rfl,rfl⟩
def zL8:(yE nH [oz,mf]).2=0/\(yE nH [oz,mf]).1.res=[0,0]/\(yE nH [oz,mf]).1.needs.length=2:=by
 have hc:jx (wH nH).t (uA oz):=Yd mZ zCM;have h1:zq (wH nH) oz=(true,more (xR (wH nH) (uA oz)) 0):=X_ (by decide) rfl zCM (by simp[wH]);have hk:=QB (P:=wH nH) mZ hc;have ht:=TE (P:=wH nH) mZ hc;generalize hP:more (xR (wH nH) (uA oz)) 0=P1 at *;have hPt:P1.t=(xR (wH nH) (uA oz)).t:=by rw[<- hP];rfl
 have hPr:P1.res=[0]:=by rw[<- hP];rfl
 have hPn:P1.needs=[uA oz]:=by rw[<- hP];rfl
 have hPb:P1.bytes=24:=by rw[<- hP];rfl
 rw[<- hPt] at hk ht;have hv:=hk.v;have hlen:P1.t.ep.length=1:=hk.len;have QA:zZ P1.t=yp (zZ nH) (uA oz):=by rw[ht];exact zJF mZ _
 have hg:zl (zZ P1.t).m ((mf.key:Nat):Int)=some (DZ (zZ nH) (uA oz)):=by
  rw[QA,zF6 mZ.EI.1 ⟨aq _,fun e=>(by cases e)⟩ (by decide)]
  rfl
 have hall:yF P1.t ((mf.key:Nat):Int)=[⟨(zZ P1.t).num,(zZ P1.t).mode,(zZ P1.t).rev,DZ (zZ nH) (uA oz),0⟩]:=by
  rw[W_ hv,Xb hv,hg,hlen];rfl
 have Mz:xE P1.t mf=0:=by
  unfold xE;rw[hall,ah ⟨rfl,rfl⟩]
 have hks:wW P1 ((mf.key:Nat):Int)=P1:=by
  unfold wW;rw[zGT hv hlen];rfl
 have hd:wY P1 mf=xR P1 (uH mf):=by
  unfold wY;rw[hks,ah ((tE hv _).2 (by rw[hg];exact fun e=>(by cases e)))]
 have h2:zq P1 mf=(true,more (xR P1 (uH mf)) 0):=by
  rw[<- hd];exact kY (by rw[hPr];decide) rfl Mz (by rw[hPb];omega)
 unfold yE;rw[ah ((zX _).2 mZ),vL (by rw[h1]),h1,vL (by rw[h2]),h2];refine ⟨rfl,?_,?_⟩
 ·show P1.res++[0]=_
  rw[hPr];rfl
 show (P1.needs++[_]).length=2
 rw[hPn];rfl
def zL9 (W:World):AW W (.slice none 0 0) []:=⟨⟨fun x _=>Qd x,Rd.nil W 5⟩,fun p hp=>(by cases hp)⟩
def zHJ (W:World) (qs:List (Rq×Value)) (e:TypeId) (h:∀ p∈qs,p.1.data=[]/\p.2=.slice none 0 0) (hm:qs.length<=10):AW (W.alloc (.cells (qs.flatMap EO).toArray e)) (.slice (some ⟨W.heap.size,0,none⟩) qs.length qs.length) qs:=
 ⟨⟨fun x _=>Qd x,Rd.new W 5 _ e qs.length (ye 5 EO qs fun x _=>Qd x) (ak hm (by decide))⟩,fun p hp=>by
  obtain ⟨h1,h2⟩:=h p hp
  rw[h1,h2];exact zHa _⟩
def N8:List (Rq×Value):=[(oz,.slice none 0 0),(mf,.slice none 0 0)]
def N9:List (Rq×Value):=[(mf,.slice none 0 0)]
def zOa {s:fk} (h:s.ep.length<=1) (key:Int):zd s key=[]:=by
 unfold zd
 split
 ·rw[show s.ep.length-1=0 by omega];rfl
 rfl
def zOf (s:fk) (a:Option Addr) (n c:Nat) (L:List GP) (W:World) (hr:fB W (.slice a n c) L) (hg:ey L=s.ep) (hl:fF 1000 s.ep) (key:Int) :
  Calls Tryz.prog 181 #[zQ s.id s.lim s.ro a n c,.int .u64 key] W fun e w'=>∃ v',e=.returned v'/\gY w' W.heap.size v' (zd s key)/\Below W.heap.size W w':=by
 have h:=zGb s.id s.lim s.ro a n c L W hr (yx (hg▸hl) (by decide)) key;obtain ⟨i,l,r,g⟩:=s;dsimp only at hg h |-;subst hg;exact h
def zOh:lZ:=⟨fun v _=>∃ a c,v=.slice a 0 c,fun _ _ _ _ h=>h⟩
def zOZ {w:World} {B b:Nat} {P:fP} {ga:Option Addr} {gn gc:Nat} {L:List GP} {kv:Value} {ks:List KP} {nv:Value} {es:List (Nd×Value)} {rv:Value} (hlo:B<=b) (hP:Ac w b P.t.id P.t.lim P.t.ro ga gn gc P.eH kv nv rv P.bytes) (hR:nj w B P ga gn gc L kv ks nv es rv) (hl:fF 800 P.t.ep) (hB:B<=w.heap.size) (hel:es.length<=900) (hby:0<=P.bytes/\P.bytes<=1000000000) (hg1:P.t.ep.length<=1) (q:Rq) (tk kind key ck:Int) (da:Option Addr) (dn dc:Nat) (Av:(q.key:Int)=key) (Cx:(q.ck:Int)=ck) :
  Calls Tryz.prog 152 #[.pointer (some ⟨b,0,none⟩),Eg tk kind key ck (.slice da dn dc)] w fun e w'=>e=.returned (.tuple #[])/\AX w' B b (wY P q)/\fQ B w w':=by
 have fS:b<w.heap.size:=hP.lt;have hO:zd P.t key=[]:=zOa hg1 key;have NV:=zh (fun W (hb:Below w.heap.size w W)=>zOf P.t ga gn gc L W (hR.g.rd.bb hb) hR.gg (hl.mono (by decide)) key)
 have CU:=zh (show wY P q=if wO P.t key=true then xR P (uH q) else P by
  have e:wW P q.key=P:=by unfold wW;rw[Av,hO];rfl
  unfold wY
  rw[e,Av])
 have Ei:=zh hP;have j_:=zh hR;have Tw:=zh Av;have HQc:=zh Cx;generalize wY P q=D at *;clear hR Av Cx
 go_enter Tryz.func152,Tryz.ntmps152
 go_upto_region 1 with fail;change Code.wp _ _ _ _ (.alloc _ (.cells _ 85));obtain ⟨w1,hV,eG,HX⟩:=dY w #[.int .i64 tk,.int .i64 kind,.int .u64 key,.int .u32 ck,.slice da dn dc] 85;rw[hV];clear hV;have HB:=zh eG;replace Ei:=zh (Ei.o.bb eG);replace j_:=zh (j_.o.bb eG);clear eG;generalize oU:w.heap.size=b3 at *;have hz1:w.heap.size<=b3:=by omega
 have hz2:b3<=w.heap.size:=by omega
 clear oU
 go_cut [14,15,16] (fun vq vl vi wx=>∃ oa oc,vl=.int .i64 0/\vi=.int .i64 0/\vq=.slice oa 0 oc/\Hid (Below w1.heap.size w1 wx))
 case first =>
  refine vD [eT (.pointer (some ⟨b,0,none⟩)),eT (.pointer (some ⟨b,0,none⟩)),eT (.pointer (some ⟨b,0,none⟩)),eT (zQ P.t.id P.t.lim P.t.ro ga gn gc),eT (.pointer (some ⟨b3,2,none⟩)),eT (.int .u64 key),zOh,eT (.int .i64 0),eT (.int .i64 0)] 95 (by kernel_rfl) (by kernel_rfl) (by kernel_rfl) (by rfl) (by kernel_rfl) (fun f=>by simp[fU,zW,Act.put];exact rfl) ?_ ?_
  ·refine ⟨?_,?_,?_,?_,?_,?_,?_,?_,?_,trivial⟩
   ·intro f w2 hb hd;clear hd;dsimp only;go_wp2_with fail;exact pS rfl (by simp)
   ·intro f w2 hb hd;have d0:f 0=_:=hd 0 (by kernel_rfl);clear hd;dsimp only;rw[d0];go_wp2_with fail;exact pS rfl (by simp)
   ·intro f w2 hb hd;have d1:f 1=_:=hd 1 (by kernel_rfl);clear hd;dsimp only;rw[d1];go_wp2_with fail;exact pS rfl (by simp)
   ·intro f w2 hb hd;have d2:f 2=_:=hd 2 (by kernel_rfl);clear hd;dsimp only;rw[d2];have hx:=Ei.o.bb hb;have q0:=hx.cell (i:=0) rfl;have q1:=hx.cell (i:=1) rfl;have q2:=hx.cell (i:=2) rfl;have q3:=hx.cell (i:=3) rfl;clear hx;go_wp2_with fail;exact pS rfl (by simp)
   ·intro f w2 hb hd;clear hd;dsimp only;go_wp2_with fail;exact pS rfl (by simp)
   ·intro f w2 hb hd;have d4:f 4=_:=hd 4 (by kernel_rfl);clear hd;dsimp only;rw[d4];have q2:=(HX.o.bb hb).cell (i:=2) rfl;go_wp2_with fail;exact pS rfl (by simp)
   ·intro f w2 hb hd;have d3:f 3=_:=hd 3 (by kernel_rfl);have d5:f 5=_:=hd 5 (by kernel_rfl);clear hd;dsimp only;rw[d3];rw[d5];go_wp2_with fail;refine (NV.o w2 (HB.o.trans (hb.mono (ak hz2 HB.o.size)))).mono ?_;rintro e w9 ⟨ov,rfl,ho,gy⟩;rw[hO] at ho;obtain ⟨qa,qc,rfl,_⟩:=zG ho;clear ho;go_wp2_with fail;exact pRg gy ⟨qa,qc,rfl⟩ (by simp)
   ·intro f w2 hb hd;obtain ⟨a6,c6,d6⟩:=hd 6 (by kernel_rfl);clear hd;dsimp only;rw[d6];go_wp2_with fail;exact pS rfl (by simp)
   intro f w2 hb hd;clear hd;dsimp only;go_wp2_with fail;exact pS rfl (by simp)
  intro f w8 hb hA;obtain ⟨oa,oc,e6⟩:=hA 6 (by simp);have d7:f 7=_:=hA 7 (by simp);have d8:f 8=_:=hA 8 (by simp);clear hA
  try dsimp only
  rw[e6,d7,d8];clear e6 d7 d8;have eN:=zh hb;clear hb;go_wp2_with fail;go_meet
  case rel=>exact ⟨oa,oc,rfl,rfl,rfl,eN⟩
 obtain ⟨oa,oc,rfl,rfl,rfl,fH⟩:=hcut;generalize wc=w2 at *;replace HX:=zh (HX.o.bb fH.o);have jG:=Ei.o.bb fH.o;have hR1:=j_.o.bb fH.o;have hB2:fQ B w w2:=fQ.of ((HB.o.trans (fH.o.mono (ak hz2 HB.o.size))).mono hz1) (ak hB hz2);have Cc:B<=w2.heap.size:=ak (ak hB (ak hz2 HB.o.size)) fH.o.size;have FC:=zh (zFN b P.t ga gn gc L P.eH kv nv rv P.bytes key w2 jG hR1.g.rd hR1.gg (hl.mono (by decide)));have lL:=zh (fun W (hb:Below w2.heap.size w2 W)=>zFp hlo (jG.bb hb) (hR1.bb hb) (hl.mono (by decide)) (ak Cc hb.size) (uH q) none 0 0 ⟨⟨rfl,none,0,rfl,ag _,aq _,fun _=>rfl,fun h=>(by cases h)⟩,fun g hg=>(by cases hg)⟩ rfl (by decide) (by omega) hby);obtain ⟨sV,hd2,Fg⟩:=show ((uH q).key:Int)=key/\((uH q).ck:Int)=ck/\(uH q).del=true from ⟨Tw.o,HQc.o,rfl⟩;rw[sV,hd2,Fg] at lL
 have Aq:Hid (AX w2 B b P):=zh (⟨ga,gn,gc,L,kv,ks,nv,es,rv,hlo,jG,hR1⟩);have eX:=zh hB2;clear sV hd2 Fg jG hR1 hB2 HB NV fH j_ Ei hP;have Qu:=zh CU.o;clear CU;generalize wO P.t key=tb at *;go_wp2_with fail
 go_loopw [16] (fun iv W=>iv=.int .i64 0/\W=w2) (fun _ _=>0)
 case atStart=>exact ⟨rfl,rfl⟩
 obtain ⟨rfl,rfl⟩:=hrel;have x2:=HX.o.cell (i:=2) rfl;have x3:=HX.o.cell (i:=3) rfl;go_wp2_with fail;refine FC.o.mono ?_;rintro e v5 ⟨rfl,hb5⟩;have gW:=zh (eX.o.step hb5 Cc);have gj:=zh (HX.o.bb hb5);have X6:=zh (Aq.o.bb hb5);have X7:=zh (lL.o v5 hb5);clear hb5 FC lL Aq HX eX x2 x3
 cases tb
 ·go_wp2_with fail;go_end0;exact ⟨rfl,by rw[Qu.o];exact X6.o,gW.o⟩
 have x2:=gj.o.cell (i:=2) rfl;have x3:=gj.o.cell (i:=3) rfl;go_wp2_with fail;refine X7.o.mono ?_;rintro e v6 ⟨rfl,GQ,lX⟩;have TB:=zh GQ;have jH:=zh (gW.o.trans lX);clear GQ lX;go_wp2_with fail;go_end0;exact ⟨rfl,by rw[Qu.o];exact TB.o,jH.o⟩
end Go.Proofs.YtcgfilmmokmdjaaGreat
