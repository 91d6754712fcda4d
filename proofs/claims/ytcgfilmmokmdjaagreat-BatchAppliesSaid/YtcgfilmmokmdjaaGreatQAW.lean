import Derived.Test.YtcgfilmmokmdjaaGreatQAV
set_option linter.all false
set_option maxRecDepth 100000
set_option maxHeartbeats 32000000
namespace Go.Proofs.YtcgfilmmokmdjaaGreat
open Go.Proofs.Tryz
open Go.RowKit
def zLr (s:fk) (a:Option Addr) (n c:Nat) (L:List GP) (W:World) (hr:fB W (.slice a n c) L) (hg:ey L=s.ep) (hl:fF 1000 s.ep) :
  Calls prog 76 #[zQ s.id s.lim s.ro a n c] W fun e w'=>e=.returned (.bool (zb s))/\Below W.heap.size W w':=by
 have h:=zt s.id s.lim s.ro a n c L W hr (yx (hg▸hl) (by decide));obtain ⟨i,l,r,g⟩:=s;dsimp only at hg h |-;subst hg;exact h
structure nG (W:World) (B:Nat) (P:fP) (kv:Value) (ks:List KP) (nv:Value) (es:List (Nd×Value)) (rv:Value):Prop where
 k:iO W B kv ks
 kk:gV ks=P.eE
 n:gH W B nv es
 nn:es.map (·.1)=P.needs
 r:W.ownsRow B 39 1 rv P.res.length (P.res.map qQ)
def nG.ik {W W':World} {B b:Nat} {T:TypeId} {P:fP} {kv:Value} {ks:List KP} {nv:Value} {es:List (Nd×Value)} {rv:Value} (h:nG W B P kv ks nv es rv) (ho:gO W W' B b T) (h1:103≠T) (h2:24≠T) (h3:56≠T) (h4:5≠T) (h5:39≠T):nG W' B P kv ks nv es rv:=
 ⟨h.k.ik ho h1 h2,h.kk,h.n.ik ho h3 h4,h.nn,yT h.r ho h5⟩
def nG.bb {W W':World} {B:Nat} {P:fP} {kv:Value} {ks:List KP} {nv:Value} {es:List (Nd×Value)} {rv:Value} (h:nG W B P kv ks nv es rv) (hb:Below W.heap.size W W'):nG W' B P kv ks nv es rv:=
 ⟨h.k.bb hb,h.kk,h.n.bb hb,h.nn,zE h.r hb⟩
def nG.nil (W:World) (B:Nat) (s:fk):nG W B (wH s) (.slice none 0 0) [] (.slice none 0 0) [] (.slice none 0 0):=
 ⟨⟨aP _ _ _ _,(fun p hp=>by cases hp),List.Pairwise.nil⟩,rfl,⟨aP _ _ _ _,(fun p hp=>by cases hp)⟩,rfl,aP _ _ _ _⟩
variable {W:World}
def rY.pln {B:Nat} {P:fP} {ga:Option Addr} {gn gc:Nat} {L:List GP} {kv:Value} {ks:List KP} {nv:Value} {es:List (Nd×Value)} {rv:Value} (h:rY W B P ga gn gc L kv ks nv es rv):nG W B P kv ks nv es rv:=⟨h.k,h.kk,h.n,h.nn,h.r⟩
def zJt {P:fP} {q:Rq} (h:(zq P q).1=false):(zq P q).2.res=P.res:=by
 unfold zq at h |-
 split
 ·rfl
 rename_i h0;rw[ai h0] at h
 split
 ·rename_i h1;rw[ah h1] at h
  split
  ·rfl
  rename_i h2;rw[ai h2] at h
  split
  ·rename_i h3;rw[ah h3] at h
   split
   ·rfl
   rename_i h4;rw[ai h4] at h;cases h
  rename_i h3;rw[ai h3] at h;cases h
 rename_i h1;rw[ai h1] at h
 split
 ·rename_i h2;rw[ah h2] at h
  split
  ·rename_i h3;rw[ah h3] at h
   split
   ·rfl
   rename_i h4;rw[ai h4] at h;cases h
  rename_i h3;rw[ai h3] at h;cases h
 rename_i h2;rw[ai h2] at h;cases h
def zJU {r:List Rq} {P:fP} (h:P.res.length=16):tx r P=P:=by
 cases r with
 |nil=>rfl
 |cons q r=>rw[uy (by rw[ko h]),ko h]
def zKR (w:World) (i l:Int) (r:Bool) (a:Option Addr) (n c:Nat) (t u:TypeId):∃ W,((w.alloc (.cells (zM i l r a n c) t)).alloc (.cells #[.bool false,.int .i64 0,.slice none 0 0,.slice none 0 0,.slice none 0 0] u)).alloc (.cells (zM 0 0 false none 0 0) t)=W/\eu W w.heap.size (zM i l r a n c) t/\eu W (w.heap.size+1) #[.bool false,.int .i64 0,.slice none 0 0,.slice none 0 0,.slice none 0 0] u/\eu W (w.heap.size+1+1) (zM 0 0 false none 0 0) t/\Below w.heap.size w W:=by
 have h1:=eu.new w (zM i l r a n c) t;have b1:=zR w i l r a n c t;generalize hw1:w.alloc (.cells (zM i l r a n c) t)=w1 at *;have e1:w1.heap.size=w.heap.size+1:=by rw[<- hw1,cm]
 have h2:=eu.new w1 #[.bool false,.int .i64 0,.slice none 0 0,.slice none 0 0,.slice none 0 0] u;have b2:=(aj w1.heap.size w1).alloc (ag _) (.cells #[.bool false,.int .i64 0,.slice none 0 0,.slice none 0 0,.slice none 0 0] u);generalize hw2:w1.alloc (.cells #[.bool false,.int .i64 0,.slice none 0 0,.slice none 0 0,.slice none 0 0] u)=w2 at *;have e2:w2.heap.size=w.heap.size+1+1:=by rw[<- hw2,cm,e1]
 have h3:=eu.new w2 (zM 0 0 false none 0 0) t;have b3:=zR w2 0 0 false none 0 0 t;rw[e1] at h2;rw[e2] at h3;exact ⟨_,rfl,(h1.bb b2).bb b3,h2.bb b3,h3,zA (zA b1 b2) b3⟩
structure I2 (ps:List (Nat×Value)) (W0 W1:World) (L:Nat->Bool) (f:Nat->Value) (W:World):Prop where
 ji:∀ q∈ps,L q.1=true->f q.1=q.2
 s0:L 8=false->W=W0
 s1:L 8=true->W=W1
variable {ps:List (Nat×Value)}
def I2.start (W0 W1:World) (f:Nat->Value):I2 ps W0 W1 (fun _=>false) f W0:=⟨(fun _ _ h=>by cases h),(fun _=>rfl),(fun h=>by cases h)⟩
def I2.pure {W0 W1:World} {L:Nat->Bool} {f:Nat->Value} (h:I2 ps W0 W1 L f W) {i:Nat} {v:Value} (h8:8≠i) (hp:∀ q∈ps,q.1=i->v=q.2):I2 ps W0 W1 (nY L i) (xM f i v) W:=by
 refine ⟨fun q hq hL=>?_,?_,?_⟩
 ·by_cases e:q.1=i
  ·rw[e,vM];exact hp q hq e
  rw[yt e];rw[zO e] at hL;exact h.ji q hq hL
 ·rw[zO h8];exact h.s0
 rw[zO h8];exact h.s1
def I2.store {W0 W1:World} {L:Nat->Bool} {f:Nat->Value} (h:I2 ps W0 W1 L f W) (hp:∀ q∈ps,q.1≠8) (v:Value):I2 ps W0 W1 (nY L 8) (xM f 8 v) W1:=by
 refine ⟨fun q hq hL=>?_,fun e=>?_,fun _=>rfl⟩
 ·rw[yt (hp q hq)];rw[zO (hp q hq)] at hL;exact h.ji q hq hL
 rw[vN] at e;cases e
def fD.box0 {B c:Nat} {w:World} (hB:B<=c) (hc:w.heap.size<=c) (h:fD B w W) (vs:List (Nat×Value)):fD B w (Go.Proofs.YtcgfilmmokmdjaaGreat.pts W c vs):=by
 refine ⟨zC hB vs h.b,fun i cs T f h1 hT=>?_⟩;have hi:=(Array.getElem?_eq_some_iff.1 h1).1;have h2:=h.k i cs T f h1 hT;have hb:=(zC (B:=c) (ag c) vs (aj c W)).block i (by omega);rw[hb];exact h2
def MdR (w0 w W:World) (M:fP×Int) (e:Ending):Prop:=∃ ga gn gc kv ks nv es rv,e=.returned (.tuple #[.agg #[.bool M.1.eH,.int .i64 (M.1.res.length:Int),kv,nv,rv],zQ M.1.t.id M.1.t.lim M.1.t.ro ga gn gc,.int .i64 M.2])/\nG W w0.heap.size M.1 kv ks nv es rv/\fD w0.heap.size w W
def zJN (s:fk) (ga:Option Addr) (gn gc:Nat) (L:List GP) (qa:Option Addr) (qc:Nat) (qs:List (Rq×Value)) (w0 w:World) (hw0:Below w0.heap.size w0 w) (hr:fB w0 (.slice ga gn gc) L) (hg:ey L=s.ep) (hl:fF 600 s.ep)
  (hq:AW w0 (.slice qa qs.length qc) qs) (Lm:qs.length<=1000000) (iz:∀ p∈qs,p.1.data.length<=100000) :
  Calls prog 68 #[zQ s.id s.lim s.ro ga gn gc,.slice qa qs.length qc] w fun e w'=>MdR w0 w w' (yE s (qs.map (·.1))) e:=by
 have HV:=zh (fun W (hb:Below w.heap.size w W)=>zLr s ga gn gc L W ((hr.bb hw0).bb hb) hg (hl.mono (by decide)))
 go_enter func68,ntmps68
 go_upto_region 1 with fail;change Code.wp _ _ _ _ (((w.alloc (.cells (zM s.id s.lim s.ro ga gn gc) 31)).alloc (.cells #[.bool false,.int .i64 0,.slice none 0 0,.slice none 0 0,.slice none 0 0] 78)).alloc (.cells (zM 0 0 false none 0 0) 31));obtain ⟨W1,hW1,hx1,hx2,hx3,fS⟩:=zKR w s.id s.lim s.ro ga gn gc 31 78;rw[hW1];have HX:=zh hx1;have HY:=zh hx2;have HZ:=zh hx3;have HB:=zh fS;have DL:w.heap.size+1+1<W1.heap.size:=hx3.lt;clear hW1 hx1 hx2 hx3 fS;have q0:=HX.o.cell (i:=0) rfl;have q1:=HX.o.cell (i:=1) rfl;have q2:=HX.o.cell (i:=2) rfl;have q3:=HX.o.cell (i:=3) rfl;go_wp2_with fail;refine (HV.o W1 HB.o).mono ?_;rintro e w2 ⟨rfl,hb2⟩;replace HB:=zh (zA HB.o hb2);replace HX:=zh (HX.o.bb hb2);replace HY:=zh (HY.o.bb hb2);replace HZ:=zh (HZ.o.bb hb2)
 have Aj:w.heap.size+1+1<w2.heap.size:=cH DL hb2.size;clear hb2 q0 q1 q2 q3 HV DL
 by_cases hv:zb s=true
 ·rw[hv];have rW:=zh (show yE s (qs.map (·.1))=(tx (qs.map (·.1)) (wH s),0) by unfold yE;rw[ah hv]);have hV:=(zX s).1 hv;have q0:=HX.o.cell (i:=0) rfl;have q1:=HX.o.cell (i:=1) rfl;have q2:=HX.o.cell (i:=2) rfl;have q3:=HX.o.cell (i:=3) rfl;go_upto_region 4 with fail;change Code.wp _ _ _ _ (w2.alloc (.cells (BS s.id s.lim s.ro ga gn gc false 0 (.slice none 0 0) (.slice none 0 0) (.slice none 0 0) 0) 197));have eG:=(aj w2.heap.size w2).alloc (ag _) (.cells (BS s.id s.lim s.ro ga gn gc false 0 (.slice none 0 0) (.slice none 0 0) (.slice none 0 0) 0) 197)
  have rX:Hid (BU (w2.alloc (.cells (BS s.id s.lim s.ro ga gn gc false 0 (.slice none 0 0) (.slice none 0 0) (.slice none 0 0) 0) 197)) w2.heap.size s.id s.lim s.ro ga gn gc false 0 (.slice none 0 0) (.slice none 0 0) (.slice none 0 0) 0):=zh (eu.new w2 (BS s.id s.lim s.ro ga gn gc false 0 (.slice none 0 0) (.slice none 0 0) (.slice none 0 0) 0) 197);have hlo:w.heap.size<=w2.heap.size:=HB.o.size;have f_:=zh (HB.o.trans (eG.mono hlo));replace HY:=zh (HY.o.bb eG);replace HZ:=zh (HZ.o.bb eG);clear eG q0 q1 q2 q3 HX HB;generalize J2:w2.heap.size=b at *;clear J2;generalize w2.alloc (.cells (BS s.id s.lim s.ro ga gn gc false 0 (.slice none 0 0) (.slice none 0 0) (.slice none 0 0) 0) 197)=w3 at *
  have oh:Hid (mX w3 w0.heap.size b ((0:Nat):Int) (wH s)):=zh (⟨ga,gn,gc,L,.slice none 0 0,[],.slice none 0 0,[],.slice none 0 0,ak hw0.size hlo,rX.o,⟨((gU.old hr (ag _)).bb hw0).bb f_.o,hg,(nG.nil w3 w0.heap.size s).k,rfl,(nG.nil w3 w0.heap.size s).n,rfl,(nG.nil w3 w0.heap.size s).r⟩⟩);have CX:Hid (mE 600 s.ep.length (wH s).res.length (wH s)):=zh (⟨hl,pR.nil _,ag _,⟨cL _,cL _⟩,ag _⟩);have J3:Hid (fg (wH s).t/\AY (wH s)):=zh (⟨hV,⟨rfl,.inl (aq _),fun x hx=>by cases hx⟩⟩);obtain ⟨fE,MI⟩:∃ fE,tx (qs.map (·.1)) (wH s)=fE:=⟨_,rfl⟩
  rw[MI] at rW;have iw:Hid (tx ((qs.map (·.1)).drop 0) (wH s)=fE):=zh (MI);clear rX MI
  have MJ:=zh (fun k (hk:k<qs.length)=>show (qs.map (·.1)).drop k=(Ab qs k).1::(qs.map (·.1)).drop (k+1) by
   rw[dH (by rw[aH];exact hk),dB]
   congr 1
   unfold Ab
   rw[aw,aA hk];rfl)
  have Ay:Hid ((qs.map (·.1)).drop qs.length=[]):=zh (cu (by rw[aH];exact ag _));have HQ:=zh hq;have I3:=zh hw0;have BR:=zh (fun k (hk:k<qs.length)=>iz _ (Tg hk));clear hq iz hr hg hl hV;generalize hnn:qs.length=n at *;clear hnn
  go_upto_block 0 with fail
  go_cut [8] (fun _ wx=>Hid (mX wx w0.heap.size b (fE.res.length:Int) fE)/\Hid (eu wx (w.heap.size+1) #[.bool false,.int .i64 0,.slice none 0 0,.slice none 0 0,.slice none 0 0] 78)/\Hid (eu wx (w.heap.size+1+1) (zM 0 0 false none 0 0) 31)/\Hid (fD w0.heap.size w wx))
  case first =>
   go_wp2_with fail
   go_loopw [8] (fun iv W=>∃ (k:Nat) (P:fP),iv=.int .i64 (k:Int)/\k<=n/\P.res.length=k/\k<=16/\Hid (tx ((qs.map (·.1)).drop k) P=fE)/\Hid (fg P.t/\AY P)/\Hid (mE 600 s.ep.length P.res.length P)/\Hid (mX W w0.heap.size b (k:Int) P)/\Hid (eu W (w.heap.size+1) #[.bool false,.int .i64 0,.slice none 0 0,.slice none 0 0,.slice none 0 0] 78)/\Hid (eu W (w.heap.size+1+1) (zM 0 0 false none 0 0) 31)/\Hid (fD w0.heap.size w W)) (fun iv _=>n-(intOf iv).toNat)
   case atStart=>exact ⟨0,wH s,rfl,aq _,rfl,aq _,iw,J3,CX,oh,HY,HZ,zh (fD.of f_.o hw0.size)⟩
   clear CX oh iw HY HZ f_ J3;obtain ⟨k,P,rfl,hk,hkr,aoT,iw,J4,HI,HM,HY,HZ,HB⟩:=hrel;have Bv:w0.heap.size<=wr.heap.size:=ak hw0.size HB.o.size
   by_cases hlt:k<n
   ·have j1:(k:Int)<(n:Int):=by omega
    by_cases p_:k<16
    ·have j2:(k:Int)<16:=by omega
     obtain ⟨qb,qo,e0,hd,c0,c1,c2,c3,c4⟩:=(HQ.o.bb (I3.o.trans HB.o.b)).at (j:=k) hlt;subst e0;have MK:=MJ.o k hlt;have I1:=iw.o;rw[MK] at I1;have hdk:=BR.o k hlt;obtain ⟨_,_,e9,J5,_⟩:=HQ.o.at (j:=k) hlt;clear e9;have YG:gD wr w0.heap.size (Ab qs k).2 (Ab qs k).1.data:=iI.bb (iI.old J5 (ag _)) (I3.o.trans HB.o.b);generalize (Ab qs k).1=q at *;generalize (Ab qs k).2=dv at *;obtain ⟨da,dc,rfl,_,_⟩:=hd.fO;have FY:gD wr w0.heap.size (.slice da q.data.length dc) q.data:=YG;have ny:=zh (Ya (q:=q) HI.o);have TU:Hid (fg (zq P q).2.t/\AY (zq P q).2):=zh (⟨(zLf J4.o.1 q).v,zJQ J4.o.1 J4.o.2 q⟩);have hl2:=kF P q (by omega);have hno:=zJt (P:=P) (q:=q);have jY:=zh (fun h=>(vL (q:=q) (r:=(qs.map (·.1)).drop (k+1)) (P:=P) h).symm.trans I1)
     have ML:=zh (fun h=>(uy (q:=q) (r:=(qs.map (·.1)).drop (k+1)) (P:=P) h).symm.trans I1);have hib:=HI.o.b;have hie:=HI.o.e
     by_cases nw:q.kind=1
     ·have FH:=zh (zJL HM.o Bv (HI.o.l.mono (by omega)) J4.o.2 (by omega) (by omega) (by omega) (by rw[hkr]) q nw q.tk q.kind (q.key:Int) (q.ck:Int) da q.data.length dc rfl rfl FY rfl hdk);have e1:(q.kind==1)=true:=by simp[nw]
      clear nw;clear I1 MK hd FY iw J4 HI hdk;obtain ⟨pb,hpb⟩:∃ pb,(zq P q).1=pb:=⟨_,rfl⟩
      rw[hpb] at FH jY ML hl2 hno;generalize (zq P q).2=P2 at *;clear hpb;go_wp2_with fail;refine FH.o.mono ?_;rintro e w6 ⟨rfl,GQ,lX⟩;have I4:=zh GQ;have jH:=zh (HB.o.trans lX);have AL:=zh (lX.box HY.o (by decide));have I5:=zh (lX.box HZ.o (by decide));clear GQ lX FH HB HY HZ HM c0 c1 c2 c3 c4
      cases pb
      ·have Du:=zh (show mX w6 w0.heap.size b (fE.res.length:Int) fE by
        rw[<- ML.o rfl,hno rfl,hkr];exact I4.o)
       go_wp2_with fail;go_meet
       case rel=>exact ⟨Du,AL,I5,jH⟩
      have iw:=zh (jY.o rfl);have hr2:P2.res.length=k+1:=by rw[hl2.2.2 rfl,hkr]
      obtain ⟨pg,oW,pj,L1,DC,iR,Bq,lM,Bt,jT,jG,hR1⟩:=I4.o;have q5:=jG.cell (i:=5) rfl;have f5:=jG.frozen 5
      have QY:=zh (show mX (w6.setCell ⟨b,5,none⟩ (.int .i64 ((k:Int)+1))) w0.heap.size b ((k+1:Nat):Int) P2 from by
       have h:=jG.set 5 (.int .i64 ((k:Int)+1))
       simp only[aJ,aK,aI] at h
       rw[show ((k+1:Nat):Int)=(k:Int)+1 by omega]
       exact ⟨pg,oW,pj,L1,DC,iR,Bq,lM,Bt,jT,h,hR1.ik (gO.pts jT ⟨_,_,jG⟩ [(5,.int .i64 ((k:Int)+1))])⟩)
      have AO:Hid (fD w0.heap.size w (w6.setCell ⟨b,5,none⟩ (.int .i64 ((k:Int)+1)))):=zh (jH.o.pts jT [(5,.int .i64 ((k:Int)+1))] ⟨_,_,jG⟩ (by decide));have rP:Hid (eu (w6.setCell ⟨b,5,none⟩ (.int .i64 ((k:Int)+1))) (w.heap.size+1) #[.bool false,.int .i64 0,.slice none 0 0,.slice none 0 0,.slice none 0 0] 78):=zh (eu.eL (c:=b) (by omega) [(5,.int .i64 ((k:Int)+1))] AL.o);have QZ:Hid (eu (w6.setCell ⟨b,5,none⟩ (.int .i64 ((k:Int)+1))) (w.heap.size+1+1) (zM 0 0 false none 0 0) 31):=zh (eu.eL (c:=b) (by omega) [(5,.int .i64 ((k:Int)+1))] I5.o);clear jG hR1 I4 jH AL I5;go_wp2_with fail;exact ⟨⟨k+1,P2,by go_num,by omega,hr2,by omega,iw,TU,ny,QY,rP,QZ,AO⟩,by simp[intOf];omega⟩
     by_cases hk2:q.kind=2
     ·have FH:=zh (zGz HM.o Bv (HI.o.l.mono (by omega)) J4.o.1 J4.o.2 (by omega) (by omega) (8*P.res.length) (by omega) HI.o.k (by omega) q hk2 q.tk q.kind (q.key:Int) (q.ck:Int) da q.data.length dc rfl rfl);have e1:(q.kind==1)=false:=by simp[nw]
      have e2:(q.kind==2)=true:=by simp[hk2]
      clear nw hk2;clear I1 MK hd FY iw J4 HI hdk;obtain ⟨pb,hpb⟩:∃ pb,(zq P q).1=pb:=⟨_,rfl⟩
      rw[hpb] at FH jY ML hl2 hno;generalize (zq P q).2=P2 at *;clear hpb;go_wp2_with fail;refine FH.o.mono ?_;rintro e w6 ⟨rfl,GQ,lX⟩;have I4:=zh GQ;have jH:=zh (HB.o.trans lX);have AL:=zh (lX.box HY.o (by decide));have I5:=zh (lX.box HZ.o (by decide));clear GQ lX FH HB HY HZ HM c0 c1 c2 c3 c4
      cases pb
      ·have Du:=zh (show mX w6 w0.heap.size b (fE.res.length:Int) fE by
        rw[<- ML.o rfl,hno rfl,hkr];exact I4.o)
       go_wp2_with fail;go_meet
       case rel=>exact ⟨Du,AL,I5,jH⟩
      have iw:=zh (jY.o rfl);have hr2:P2.res.length=k+1:=by rw[hl2.2.2 rfl,hkr]
      obtain ⟨pg,oW,pj,L1,DC,iR,Bq,lM,Bt,jT,jG,hR1⟩:=I4.o;have q5:=jG.cell (i:=5) rfl;have f5:=jG.frozen 5
      have QY:=zh (show mX (w6.setCell ⟨b,5,none⟩ (.int .i64 ((k:Int)+1))) w0.heap.size b ((k+1:Nat):Int) P2 from by
       have h:=jG.set 5 (.int .i64 ((k:Int)+1))
       simp only[aJ,aK,aI] at h
       rw[show ((k+1:Nat):Int)=(k:Int)+1 by omega]
       exact ⟨pg,oW,pj,L1,DC,iR,Bq,lM,Bt,jT,h,hR1.ik (gO.pts jT ⟨_,_,jG⟩ [(5,.int .i64 ((k:Int)+1))])⟩)
      have AO:Hid (fD w0.heap.size w (w6.setCell ⟨b,5,none⟩ (.int .i64 ((k:Int)+1)))):=zh (jH.o.pts jT [(5,.int .i64 ((k:Int)+1))] ⟨_,_,jG⟩ (by decide));have rP:Hid (eu (w6.setCell ⟨b,5,none⟩ (.int .i64 ((k:Int)+1))) (w.heap.size+1) #[.bool false,.int .i64 0,.slice none 0 0,.slice none 0 0,.slice none 0 0] 78):=zh (eu.eL (c:=b) (by omega) [(5,.int .i64 ((k:Int)+1))] AL.o);have QZ:Hid (eu (w6.setCell ⟨b,5,none⟩ (.int .i64 ((k:Int)+1))) (w.heap.size+1+1) (zM 0 0 false none 0 0) 31):=zh (eu.eL (c:=b) (by omega) [(5,.int .i64 ((k:Int)+1))] I5.o);clear jG hR1 I4 jH AL I5;go_wp2_with fail;exact ⟨⟨k+1,P2,by go_num,by omega,hr2,by omega,iw,TU,ny,QY,rP,QZ,AO⟩,by simp[intOf];omega⟩
     have e1:(q.kind==1)=false:=by simp[nw]
     have e2:(q.kind==2)=false:=by simp[hk2]
     have hpl:=zBL (P:=P) (q:=q) (by omega) nw hk2;clear nw hk2 hd FY J4 HI hdk I1 MK hl2 hno;have iw:=zh (jY.o (by rw[hpl]));have hr2:(more P 1).res.length=k+1:=by rw[zE5,hkr]
     rw[hpl] at iw TU ny;have aoU:P.res.length<=16:=by omega
     clear hpl hkr;obtain ⟨ga0,gX,gc0,L0,kv0,ks0,nv0,es0,rv0,MN,YH,MO⟩:=HM.o;obtain ⟨ra0,rc0,YI,ao1,ao2,_⟩:=zG MO.r;subst YI;have q8:=YH.cell (i:=8) rfl;have eG:=(aj wr.heap.size wr).alloc (ag _) (.cells #[.int .i64 1] 39);have pQ:=zh (YH.bb eG);have lS:=zh (MO.bb eG);have h_:=zh (HB.o.step eG Bv);have HYa:=zh (HY.o.bb eG);have Q0:=zh (HZ.o.bb eG);have iE:=zh lS.o.r;have rJ:=ak Bv eG.size;clear eG YH MO HM HB HY HZ
     go_upto_region 14 with (at_builtin;go_must (refine zP (n:=P.res.length) (m:=1) rfl (.tmp 38) (.tmp 39) 69 rfl kj w0.heap.size rfl iE.o rfl (Rd.jR wr.heap.size wr rfl 1 [.int .i64 1] 39 1 rfl (by decide)) (fun u hu=>by simp only[bp,bt,bu] at hu;rw[hu];rfl) (by unfold maxLen;omega) (by omega) rJ ?_);intro v3 w3 eB eW hv3;clear hv3;obtain ⟨oa,oc,ev,_,_,_⟩:=zG eB;subst ev;have iA:=pQ.o.fC (fM.row iE.o eW (ag _)) (by decide);have c8:=iA.cell (i:=8) rfl;have f8:=iA.frozen 8);have EZ:=fM.row iE.o eW (ag _);have jP:gO w3 (w3.setCell ⟨b,8,none⟩ (.slice oa (P.res.length+1) oc)) w0.heap.size b 197:=gO.pts MN ⟨_,_,iA⟩ [(8,.slice oa (P.res.length+1) oc)]
     have I4:=zh (show mX (w3.setCell ⟨b,8,none⟩ (.slice oa (P.res.length+1) oc)) w0.heap.size b (k:Int) (more P 1) from by
      have h:=iA.set 8 (.slice oa (P.res.length+1) oc)
      rw[N0] at h
      exact ⟨ga0,gX,gc0,L0,kv0,ks0,nv0,es0,_,MN,h,(lS.o.res 1 eW eB).1.ik jP⟩)
     have jH:Hid (fD w0.heap.size w (w3.setCell ⟨b,8,none⟩ (.slice oa (P.res.length+1) oc))):=zh ((h_.o.own iE.o rJ eW (by decide)).pts MN [(8,.slice oa (P.res.length+1) oc)] ⟨_,_,iA⟩ (by decide));have AL:Hid (eu (w3.setCell ⟨b,8,none⟩ (.slice oa (P.res.length+1) oc)) (w.heap.size+1) #[.bool false,.int .i64 0,.slice none 0 0,.slice none 0 0,.slice none 0 0] 78):=zh (eu.eL (c:=b) (by omega) [(8,.slice oa (P.res.length+1) oc)] (HYa.o.fC EZ (by decide)));have I5:Hid (eu (w3.setCell ⟨b,8,none⟩ (.slice oa (P.res.length+1) oc)) (w.heap.size+1+1) (zM 0 0 false none 0 0) 31):=zh (eu.eL (c:=b) (by omega) [(8,.slice oa (P.res.length+1) oc)] (Q0.o.fC EZ (by decide)));clear eB eW iA jP EZ c8 f8 q8 pQ lS h_ HYa Q0 iE;generalize w3.setCell ⟨b,8,none⟩ (.slice oa (P.res.length+1) oc)=w6 at *;generalize more P 1=P2 at *
     obtain ⟨pg,oW,pj,L1,DC,iR,Bq,lM,Bt,jT,jG,hR1⟩:=I4.o;have q5:=jG.cell (i:=5) rfl;have f5:=jG.frozen 5
     have QY:=zh (show mX (w6.setCell ⟨b,5,none⟩ (.int .i64 ((k:Int)+1))) w0.heap.size b ((k+1:Nat):Int) P2 from by
      have h:=jG.set 5 (.int .i64 ((k:Int)+1))
      simp only[aJ,aK,aI] at h
      rw[show ((k+1:Nat):Int)=(k:Int)+1 by omega]
      exact ⟨pg,oW,pj,L1,DC,iR,Bq,lM,Bt,jT,h,hR1.ik (gO.pts jT ⟨_,_,jG⟩ [(5,.int .i64 ((k:Int)+1))])⟩)
     have AO:Hid (fD w0.heap.size w (w6.setCell ⟨b,5,none⟩ (.int .i64 ((k:Int)+1)))):=zh (jH.o.pts jT [(5,.int .i64 ((k:Int)+1))] ⟨_,_,jG⟩ (by decide));have rP:Hid (eu (w6.setCell ⟨b,5,none⟩ (.int .i64 ((k:Int)+1))) (w.heap.size+1) #[.bool false,.int .i64 0,.slice none 0 0,.slice none 0 0,.slice none 0 0] 78):=zh (eu.eL (c:=b) (by omega) [(5,.int .i64 ((k:Int)+1))] AL.o);have QZ:Hid (eu (w6.setCell ⟨b,5,none⟩ (.int .i64 ((k:Int)+1))) (w.heap.size+1+1) (zM 0 0 false none 0 0) 31):=zh (eu.eL (c:=b) (by omega) [(5,.int .i64 ((k:Int)+1))] I5.o);clear jG hR1 I4 jH AL I5;go_wp2_with fail;exact ⟨⟨k+1,P2,by go_num,by omega,hr2,by omega,iw,TU,ny,QY,rP,QZ,AO⟩,by simp[intOf];omega⟩
    have j2:¬ (k:Int)<16:=by omega
    have Du:=zh (show mX wr w0.heap.size b (fE.res.length:Int) fE by
     have h:=iw.o
     rw[zJU (by omega)] at h
     rw[<- h,hkr];exact HM.o)
    go_wp2_with fail;go_meet
    case rel=>exact ⟨Du,HY,HZ,HB⟩
   have j1:¬ (k:Int)<(n:Int):=by omega
   obtain rfl:k=n:=by omega
   have Du:=zh (show mX wr w0.heap.size b (fE.res.length:Int) fE by
    have h:=iw.o
    rw[Ay.o] at h
    rw[<- h]
    show mX _ _ _ (P.res.length:Int) P
    rw[hkr];exact HM.o)
   go_wp2_with fail;go_meet
   case rel=>exact ⟨Du,HY,HZ,HB⟩
  obtain ⟨HM,HY,HZ,HB⟩:=hcut;generalize wc=v1 at *;obtain ⟨pg,oW,pj,L1,DC,iR,Bq,lM,Bt,jT,jG,hR1⟩:=HM.o;obtain ⟨ra,rc,DI,_⟩:=zG hR1.r;obtain ⟨ka,kc,EV,_⟩:=zG hR1.k.row;obtain ⟨na,nc,JO,_⟩:=zG hR1.n.row;subst DI EV JO;generalize hB1:w.heap.size+1=c4 at *;generalize hB2:c4+1=c5 at *;have AZ:=zV (aj v1.heap.size v1);have HP:=zh (jG.bb AZ);have HR:=zh (hR1.bb AZ);have YJ:=hw0.size;have eP:=zh (HB.o.step AZ (ak YJ HB.o.size));have Ba:=zh (HY.o.bb AZ);have LI:=zh (HZ.o.bb AZ);clear jG hR1 HB HY HZ HM AZ;go_upto_region 16 with fail;obtain ⟨v2,hv2⟩:∃ v2,v1.drew=v2:=⟨_,rfl⟩
  rw[hv2] at HP HR eP Ba LI;have hc4:w0.heap.size<=c4/\w0.heap.size<=c5/\c4≠c5/\c4≠b/\c5≠b:=by omega
  have hc6:w.heap.size<=c4/\w.heap.size<=c5:=by omega
  have pY:=zh (eu.sets (wX fE.eH (fE.res.length:Int) (.slice ka iR.length kc) (.slice na lM.length nc) (.slice ra fE.res.length rc)) Ba.o);have IY:=zh (eu.eL (c:=c4) (by omega) (wX fE.eH (fE.res.length:Int) (.slice ka iR.length kc) (.slice na lM.length nc) (.slice ra fE.res.length rc)) HP.o);have Hd:=zh (eu.eL (c:=c4) (by omega) (wX fE.eH (fE.res.length:Int) (.slice ka iR.length kc) (.slice na lM.length nc) (.slice ra fE.res.length rc)) LI.o);have Ch:=zh (HR.o.pln.ik (gO.pts (B:=w0.heap.size) hc4.1 ⟨_,_,Ba.o⟩ (wX fE.eH (fE.res.length:Int) (.slice ka iR.length kc) (.slice na lM.length nc) (.slice ra fE.res.length rc))) (by decide) (by decide) (by decide) (by decide) (by decide));have eV:=zh (fD.box0 hc4.1 hc6.1 eP.o (wX fE.eH (fE.res.length:Int) (.slice ka iR.length kc) (.slice na lM.length nc) (.slice ra fE.res.length rc)));clear HR
  refine wi 9 (fun L f' W=>I2 [(0,.pointer (some ⟨b,0,none⟩)),(1,.pointer (some ⟨b,0,none⟩)),(2,.pointer (some ⟨b,4,none⟩)),(3,.agg #[.bool fE.eH,.int .i64 (fE.res.length:Int),.slice ka iR.length kc,.slice na lM.length nc,.slice ra fE.res.length rc]),(4,.pointer (some ⟨b,0,none⟩)),(5,.pointer (some ⟨b,0,none⟩)),(6,.pointer (some ⟨b,0,none⟩)),(7,zQ fE.t.id fE.t.lim fE.t.ro pg oW pj)] v2 (pts v2 c4 (wX fE.eH (fE.res.length:Int) (.slice ka iR.length kc) (.slice na lM.length nc) (.slice ra fE.res.length rc))) L f' W) 79 (by kernel_rfl) (by kernel_rfl) (by rfl) (by kernel_rfl) (fun f=>by simp[fU,zW,Act.put];exact rfl) (fun f=>by rw[hv2];exact I2.start _ _ f) ?_ ?_
  ·refine ⟨?_,?_,?_,?_,?_,?_,?_,?_,?_,trivial⟩
   ·intro L f' w7 h0 hd hI;have gl:=zh hI;clear hI hd;dsimp only;go_wp2_with fail;exact pIv (gl.o.pure (v:=.pointer (some ⟨b,0,none⟩)) (by decide) (by simp))
   ·intro L f' w7 h0 hd hI;have gl:=zh hI;have d0:f' 0=.pointer (some ⟨b,0,none⟩):=hI.ji (0,.pointer (some ⟨b,0,none⟩)) (by simp) (hd 0 (by kernel_rfl));clear hI hd;dsimp only;rw[d0];go_wp2_with fail;exact pIv (gl.o.pure (v:=.pointer (some ⟨b,0,none⟩)) (by decide) (by simp))
   ·intro L f' w7 h0 hd hI;have gl:=zh hI;have d1:f' 1=.pointer (some ⟨b,0,none⟩):=hI.ji (1,.pointer (some ⟨b,0,none⟩)) (by simp) (hd 1 (by kernel_rfl));clear hI hd;dsimp only;rw[d1];go_wp2_with fail;exact pIv (gl.o.pure (v:=.pointer (some ⟨b,4,none⟩)) (by decide) (by simp))
   ·intro L f' w7 h0 hd hI;have gl:=zh hI;have d2:f' 2=.pointer (some ⟨b,4,none⟩):=hI.ji (2,.pointer (some ⟨b,4,none⟩)) (by simp) (hd 2 (by kernel_rfl));have hx:BU w7 b fE.t.id fE.t.lim fE.t.ro pg oW pj fE.eH (fE.res.length:Int) (.slice ka iR.length kc) (.slice na lM.length nc) (.slice ra fE.res.length rc) fE.bytes:=by
     cases h8:L 8 with
     |false=>rw[hI.s0 h8];exact HP.o
     |true=>rw[hI.s1 h8];exact IY.o
    have q4:=hx.cell (i:=4) rfl;have q5:=hx.cell (i:=5) rfl;have q6:=hx.cell (i:=6) rfl;have q7:=hx.cell (i:=7) rfl;have q8:=hx.cell (i:=8) rfl;clear hx;clear hI hd;dsimp only;rw[d2];go_wp2_with fail;exact pIv (gl.o.pure (v:=.agg #[.bool fE.eH,.int .i64 (fE.res.length:Int),.slice ka iR.length kc,.slice na lM.length nc,.slice ra fE.res.length rc]) (by decide) (by simp))
   ·intro L f' w7 h0 hd hI;have gl:=zh hI;clear hI hd;dsimp only;go_wp2_with fail;exact pIv (gl.o.pure (v:=.pointer (some ⟨b,0,none⟩)) (by decide) (by simp))
   ·intro L f' w7 h0 hd hI;have gl:=zh hI;have d4:f' 4=.pointer (some ⟨b,0,none⟩):=hI.ji (4,.pointer (some ⟨b,0,none⟩)) (by simp) (hd 4 (by kernel_rfl));clear hI hd;dsimp only;rw[d4];go_wp2_with fail;exact pIv (gl.o.pure (v:=.pointer (some ⟨b,0,none⟩)) (by decide) (by simp))
   ·intro L f' w7 h0 hd hI;have gl:=zh hI;have d5:f' 5=.pointer (some ⟨b,0,none⟩):=hI.ji (5,.pointer (some ⟨b,0,none⟩)) (by simp) (hd 5 (by kernel_rfl));clear hI hd;dsimp only;rw[d5];go_wp2_with fail;exact pIv (gl.o.pure (v:=.pointer (some ⟨b,0,none⟩)) (by decide) (by simp))
   ·intro L f' w7 h0 hd hI;have gl:=zh hI;have d6:f' 6=.pointer (some ⟨b,0,none⟩):=hI.ji (6,.pointer (some ⟨b,0,none⟩)) (by simp) (hd 6 (by kernel_rfl));have hx:BU w7 b fE.t.id fE.t.lim fE.t.ro pg oW pj fE.eH (fE.res.length:Int) (.slice ka iR.length kc) (.slice na lM.length nc) (.slice ra fE.res.length rc) fE.bytes:=by
     cases h8:L 8 with
     |false=>rw[hI.s0 h8];exact HP.o
     |true=>rw[hI.s1 h8];exact IY.o
    have q0:=hx.cell (i:=0) rfl;have q1:=hx.cell (i:=1) rfl;have q2:=hx.cell (i:=2) rfl;have q3:=hx.cell (i:=3) rfl;clear hx;clear hI hd;dsimp only;rw[d6];go_wp2_with fail;exact pIv (gl.o.pure (v:=zQ fE.t.id fE.t.lim fE.t.ro pg oW pj) (by decide) (by simp))
   intro L f' w7 h0 hd hI;have d3:f' 3=.agg #[.bool fE.eH,.int .i64 (fE.res.length:Int),.slice ka iR.length kc,.slice na lM.length nc,.slice ra fE.res.length rc]:=hI.ji (3,.agg #[.bool fE.eH,.int .i64 (fE.res.length:Int),.slice ka iR.length kc,.slice na lM.length nc,.slice ra fE.res.length rc]) (by simp) (hd 3 (by kernel_rfl));have hW:=hI.s0 h0;subst hW;have gl:=zh (fun v=>hI.store (by simp) v);clear hI hd;have y0:=Ba.o.cell (i:=0) rfl;have y1:=Ba.o.cell (i:=1) rfl;have y2:=Ba.o.cell (i:=2) rfl;have y3:=Ba.o.cell (i:=3) rfl;have y4:=Ba.o.cell (i:=4) rfl;have yf:=Ba.o.frozen;dsimp only;rw[d3];go_wp2_with fail;exact ⟨rfl,(fun _ v=>gl.o v),fun t ht=>by cases ht⟩
  intro L f' w7 hA hI;have hW:=hI.s1 (hA 8 (by decide));subst hW;have d7:f' 7=zQ fE.t.id fE.t.lim fE.t.ro pg oW pj:=hI.ji (7,zQ fE.t.id fE.t.lim fE.t.ro pg oW pj) (by simp) (hA 7 (by decide));clear hI hA;generalize pts v2 c4 (wX fE.eH (fE.res.length:Int) (.slice ka iR.length kc) (.slice na lM.length nc) (.slice ra fE.res.length rc))=v3 at *;have y0:=pY.o.cell (i:=0) (u:=.bool fE.eH) (by simp);have y1:=pY.o.cell (i:=1) (u:=.int .i64 (fE.res.length:Int)) (by simp);have y2:=pY.o.cell (i:=2) (u:=.slice ka iR.length kc) (by simp);have y3:=pY.o.cell (i:=3) (u:=.slice na lM.length nc) (by simp);have y4:=pY.o.cell (i:=4) (u:=.slice ra fE.res.length rc) (by simp);have E6:=zh (eu.mV Hd.o fE.t.id fE.t.lim fE.t.ro pg oW pj);have CA:=zh (eu.eL (c:=c5) (by omega) (zI fE.t.id fE.t.lim fE.t.ro pg oW pj) pY.o)
  have HNn:=zh (Ch.o.ik (gO.pts (B:=w0.heap.size) hc4.2.1 ⟨_,_,Hd.o⟩ (zI fE.t.id fE.t.lim fE.t.ro pg oW pj)) (by decide) (by decide) (by decide) (by decide) (by decide));have fH:=zh (fD.box0 hc4.2.1 hc6.2 eV.o (zI fE.t.id fE.t.lim fE.t.ro pg oW pj));obtain ⟨z0,z1,z2,z3⟩:=(eu.g_ Hd.o).q;have zf:=(eu.g_ Hd.o).f
  try dsimp only
  rw[d7];clear d7 HP IY Ba LI eP;go_wp2_with fail;change bodyPost _ _ _ _ _ (pts v3 c5 (zI fE.t.id fE.t.lim fE.t.ro pg oW pj));clear y0 y1 y2 y3 y4 z0 z1 z2 z3 zf;generalize pts v3 c5 (zI fE.t.id fE.t.lim fE.t.ro pg oW pj)=v4 at *;have y0:=CA.o.cell (i:=0) (u:=.bool fE.eH) (by simp);have y1:=CA.o.cell (i:=1) (u:=.int .i64 (fE.res.length:Int)) (by simp);have y2:=CA.o.cell (i:=2) (u:=.slice ka iR.length kc) (by simp);have y3:=CA.o.cell (i:=3) (u:=.slice na lM.length nc) (by simp);have y4:=CA.o.cell (i:=4) (u:=.slice ra fE.res.length rc) (by simp);obtain ⟨z0,z1,z2,z3⟩:=(eu.g_ E6.o).q
  exact au (v:=.tuple #[.agg #[.bool fE.eH,.int .i64 (fE.res.length:Int),.slice ka iR.length kc,.slice na lM.length nc,.slice ra fE.res.length rc],zQ fE.t.id fE.t.lim fE.t.ro pg oW pj,.int .i64 0]) (by simp[results,results68,go_sem,y0,y1,y2,y3,y4,z0,z1,z2,z3]) rfl (by rw[rW.o];exact ⟨pg,oW,pj,.slice ka iR.length kc,iR,.slice na lM.length nc,lM,.slice ra fE.res.length rc,rfl,HNn.o,fH.o⟩)
 have hv0:zb s=false:=by cases h:zb s with
  |false=>rfl
  |true=>exact absurd h hv
 rw[hv0];have rW:=zh (show yE s (qs.map (·.1))=(wH yq,1) by unfold yE;rw[ai hv]);have pY:=zh (eu.sets (wX false 0 (.slice none 0 0) (.slice none 0 0) (.slice none 0 0)) HY.o);have Hd:=zh (eu.eL (c:=w.heap.size+1) (by omega) (wX false 0 (.slice none 0 0) (.slice none 0 0) (.slice none 0 0)) HZ.o);have eV:=zh (zC (B:=w.heap.size) (b:=w.heap.size+1) (by omega) (wX false 0 (.slice none 0 0) (.slice none 0 0) (.slice none 0 0)) HB.o);have CA:=zh (eu.eL (c:=w.heap.size+1+1) (by omega) (zI 0 0 false none 0 0) pY.o);have E6:=zh (eu.mV Hd.o 0 0 false none 0 0);have fH:=zh (zC (B:=w.heap.size) (b:=w.heap.size+1+1) (by omega) (zI 0 0 false none 0 0) eV.o);have y0:=HY.o.cell (i:=0) rfl;have y1:=HY.o.cell (i:=1) rfl;have y2:=HY.o.cell (i:=2) rfl;have y3:=HY.o.cell (i:=3) rfl;have y4:=HY.o.cell (i:=4) rfl
 have yf:=HY.o.frozen;have z0:(((((w2.setCell ⟨w.heap.size+1,0,none⟩ (.bool false)).setCell ⟨w.heap.size+1,1,none⟩ (.int .i64 0)).setCell ⟨w.heap.size+1,2,none⟩ (.slice none 0 0)).setCell ⟨w.heap.size+1,3,none⟩ (.slice none 0 0)).setCell ⟨w.heap.size+1,4,none⟩ (.slice none 0 0)).cell? ⟨w.heap.size+1+1,0,none⟩=some (.int .i64 0):=(eu.g_ Hd.o).c0;have z1:(((((w2.setCell ⟨w.heap.size+1,0,none⟩ (.bool false)).setCell ⟨w.heap.size+1,1,none⟩ (.int .i64 0)).setCell ⟨w.heap.size+1,2,none⟩ (.slice none 0 0)).setCell ⟨w.heap.size+1,3,none⟩ (.slice none 0 0)).setCell ⟨w.heap.size+1,4,none⟩ (.slice none 0 0)).cell? ⟨w.heap.size+1+1,1,none⟩=some (.int .i64 0):=(eu.g_ Hd.o).c1
 have z2:(((((w2.setCell ⟨w.heap.size+1,0,none⟩ (.bool false)).setCell ⟨w.heap.size+1,1,none⟩ (.int .i64 0)).setCell ⟨w.heap.size+1,2,none⟩ (.slice none 0 0)).setCell ⟨w.heap.size+1,3,none⟩ (.slice none 0 0)).setCell ⟨w.heap.size+1,4,none⟩ (.slice none 0 0)).cell? ⟨w.heap.size+1+1,2,none⟩=some (.bool false):=(eu.g_ Hd.o).c2;have z3:(((((w2.setCell ⟨w.heap.size+1,0,none⟩ (.bool false)).setCell ⟨w.heap.size+1,1,none⟩ (.int .i64 0)).setCell ⟨w.heap.size+1,2,none⟩ (.slice none 0 0)).setCell ⟨w.heap.size+1,3,none⟩ (.slice none 0 0)).setCell ⟨w.heap.size+1,4,none⟩ (.slice none 0 0)).cell? ⟨w.heap.size+1+1,3,none⟩=some (.slice none 0 0):=(eu.g_ Hd.o).c3
 have zf:∀ i,(((((w2.setCell ⟨w.heap.size+1,0,none⟩ (.bool false)).setCell ⟨w.heap.size+1,1,none⟩ (.int .i64 0)).setCell ⟨w.heap.size+1,2,none⟩ (.slice none 0 0)).setCell ⟨w.heap.size+1,3,none⟩ (.slice none 0 0)).setCell ⟨w.heap.size+1,4,none⟩ (.slice none 0 0)).frozen? ⟨w.heap.size+1+1,i,none⟩=false:=(eu.g_ Hd.o).f;clear hr hg hl hq iz;go_wp2_with fail;change bodyPost _ _ _ _ _ (pts (pts w2 (w.heap.size+1) (wX false 0 (.slice none 0 0) (.slice none 0 0) (.slice none 0 0))) (w.heap.size+1+1) (zI 0 0 false none 0 0));clear y0 y1 y2 y3 y4 yf z0 z1 z2 z3 zf;generalize pts (pts w2 (w.heap.size+1) (wX false 0 (.slice none 0 0) (.slice none 0 0) (.slice none 0 0))) (w.heap.size+1+1) (zI 0 0 false none 0 0)=v4 at *;have y0:=CA.o.cell (i:=0) (u:=.bool false) (by simp);have y1:=CA.o.cell (i:=1) (u:=.int .i64 0) (by simp)
 have y2:=CA.o.cell (i:=2) (u:=.slice none 0 0) (by simp);have y3:=CA.o.cell (i:=3) (u:=.slice none 0 0) (by simp);have y4:=CA.o.cell (i:=4) (u:=.slice none 0 0) (by simp);obtain ⟨z0,z1,z2,z3⟩:=(eu.g_ E6.o).q;exact au (v:=.tuple #[.agg #[.bool false,.int .i64 0,.slice none 0 0,.slice none 0 0,.slice none 0 0],zQ 0 0 false none 0 0,.int .i64 1]) (by simp[results,results68,go_sem,y0,y1,y2,y3,y4,z0,z1,z2,z3]) rfl (by rw[rW.o];exact ⟨none,0,0,.slice none 0 0,[],.slice none 0 0,[],.slice none 0 0,rfl,nG.nil v4 w0.heap.size yq,fD.of fH.o hw0.size⟩)
structure Hj (w:World) (p B:Nat) (l:List UInt8):Prop where
 h:∃ v,w.heap[p]?=some (.cells #[v] 203 (0,0))/\lR w B v l
def le (v n:Nat):List UInt8:=(List.range n).map fun j=>UInt8.ofNat (v/2^(8*j))
def tB (v n:Nat):(le v n).length=n:=by simp[le]
def zNw {v n j:Nat} (h:j<n):sW (le v n) j=UInt8.ofNat (v/2^(8*j)):=by
 unfold sW le;rw[aw,b_,List.getElem?_range h];rfl
def zOF (v:Nat):le v 4=Nr v:=by
 unfold le Nr;simp[List.range_succ]
def zKd (p c n B:Nat) (l0:List UInt8) (w:World) (hp:B<=p) (hw:Hj w p B l0) (hB:B<=w.heap.size) (hn:n<=8) (_hc:c<18446744073709551616) (h0:l0.length<=1000000) :
  Calls prog 115 #[.pointer (some ⟨p,0,none⟩),.int .u64 (c:Int),.int .i64 (n:Int)] w fun e w'=>e=.returned (.tuple #[])/\Hj w' p B (l0++be c n)/\Below B w w':=by
 obtain ⟨v0,hpt,mW⟩:=hw.h;have HS:Hid (∀ k,k<(be c n).length->_):=zh (fun k=>uL (l:=be c n) (j:=k));have HE:Hid ((be c n).take (be c n).length=be c n):=zh (bQ);have HA:Hid (∀ k,k<n->_):=zh (fun k=>Qn (v:=c) (n:=n) (j:=k));have hl:=xP c n;generalize be c n=l at *;have HL:=zh hl;have HP:=zh hpt;have MP:=zh mW;clear hpt hl mW hw
 go_enter func115,ntmps115
 go_wp2_with fail
 go_loopw [6] (fun iv wr=>∃ (k:Nat) (v:Value),iv=.int .i64 ((n:Int)-1-(k:Int))/\k<=n/\wr.heap[p]?=some (.cells #[v] 203 (0,0))/\wr.ownsRow B 5 1 v (l0.length+k) ((l0++l.take k).map yy)/\Below B w wr) (fun iv _=>(intOf iv+1).toNat)
 case atStart=>exact ⟨0,v0,by simp,by omega,HP.o,by simpa using MP.o,aj _ _⟩
 obtain ⟨k,v,rfl,hk,hpv,hown,hb⟩:=hrel;have MQ:=zh hpv;have HO:=zh hown;have Hb:=zh hb;have hB2:B<=wr.heap.size:=ak hB hb.size;have c0:=cell_of_one hpv;have f0:=free_of_one hpv;clear hpv hown hb
 by_cases hlt:k<n
 ·have oD:=zh (HS.o k (by rw[HL.o];exact hlt));have Cf:IntKind.u8.wrap ((c:Int)/2^(8*(n-1-k)))=((sW l k).toNat:Int):=by rw[HA.o k hlt,<- UM c _];simp[IntKind.wrap,IntKind.signed,IntKind.bits]
  generalize sW l k=x at *;have j0:decide ((0:Int)<=(n:Int)-1-(k:Int))=true:=by simp;omega
  have j1:IntKind.i64.wrap (8*((n:Int)-1-(k:Int)))=8*((n:Int)-1-(k:Int)):=aF _ (by omega);have j2:(0:Int)<=8*((n:Int)-1-(k:Int)):=by omega
  have j3:(8*((n:Int)-1-(k:Int))).toNat=8*(n-1-k):=by omega
  have j4:8*((n:Int)-1-(k:Int))<64:=by omega
  have Q5:p<wr.heap.size:=bW _ _ c0
  have Cw:=zh (fun o W (h:((wr.alloc o).drew).grownBy W v.ownBlock)=>show W.heap[p]?=some (.cells #[v] 203 (0,0)) from by
   rw[h.block p (by simp;omega) (fun e=>vJ HO.o MQ.o (by decide) e.symm)]
   exact (Below.heap_alloc wr o p Q5).trans MQ.o)
  go_wp2_with fail
  go_region_law ((refine wP (by rfl) (.tmp 17) (.tmp 23) 54 (by rfl) vv B (by rfl) ((HO.o.alloc _).drew) (by rfl) (Rd.drew (R7 wr x _)) (xJ [x]) (by unfold maxLen;omega) (by omega) (by simp;omega) ?_;intro v2 w2 eM fu hv2;clear hv2;obtain ⟨jD,jE,hv2,_,_,_⟩:=zG eM;subst hv2;have hp2:=Cw.o _ _ fu;have c2:=cell_of_one hp2;have f2:=free_of_one hp2))
  all_goals
   have J6:=one_setCell (u:=.slice jD (l0.length+k+1) jE) hp2;have lD:=tK eM (p:=⟨p,0,none⟩) (vJ eM hp2 (by decide)) (.slice jD (l0.length+k+1) jE);have f_:=(zK (zV (Hb.o.alloc hB2 _)) ((HO.o.alloc _).drew) (by simp;omega) fu).setCell (p:=⟨p,0,none⟩) hp (.slice jD (l0.length+k+1) jE);clear fu hp2 c2 f2 Cf j1 j2 j3 j4 eM;go_wp2_with fail;exact ⟨⟨k+1,_,by go_num,by omega,J6,by rw[oD.o,<- aY,aU];exact lD,f_⟩,by simp[intOf];omega⟩
 obtain rfl:n=k:=by omega
 have hd:decide ((0:Int)<=(n:Int)-1-(n:Int))=false:=by simp;omega
 have HF:=zh (vz HO.o (by rw[<- HL.o,HE.o]));go_wp2_with fail;go_end0;exact ⟨rfl,⟨v,MQ.o,HF.o⟩,Hb.o⟩
def zE4 (p c n B:Nat) (l0:List UInt8) (w:World) (hp:B<=p) (hw:Hj w p B l0) (hB:B<=w.heap.size) (hn:n<=8) (_hc:c<18446744073709551616) (h0:l0.length<=1000000) :
  Calls prog 116 #[.pointer (some ⟨p,0,none⟩),.int .u64 (c:Int),.int .i64 (n:Int)] w fun e w'=>e=.returned (.tuple #[])/\Hj w' p B (l0++le c n)/\Below B w w':=by
 obtain ⟨v0,hpt,mW⟩:=hw.h;have HS:Hid (∀ k,k<(le c n).length->_):=zh (fun k=>uL (l:=le c n) (j:=k));have HE:Hid ((le c n).take (le c n).length=le c n):=zh (bQ);have HA:Hid (∀ k,k<n->_):=zh (fun k=>zNw (v:=c) (n:=n) (j:=k));have hl:=tB c n;generalize le c n=l at *;have HL:=zh hl;have HP:=zh hpt;have MP:=zh mW;clear hpt hl mW hw
 go_enter func116,ntmps116
 go_wp2_with fail
 go_loopw [8] (fun iv wr=>∃ (k:Nat) (v:Value),iv=.int .i64 (k:Int)/\k<=n/\wr.heap[p]?=some (.cells #[v] 203 (0,0))/\wr.ownsRow B 5 1 v (l0.length+k) ((l0++l.take k).map yy)/\Below B w wr) (fun iv _=>n-(intOf iv).toNat)
 case atStart=>exact ⟨0,v0,by go_num,by omega,HP.o,by simpa using MP.o,aj _ _⟩
 obtain ⟨k,v,rfl,hk,hpv,hown,hb⟩:=hrel;have MQ:=zh hpv;have HO:=zh hown;have Hb:=zh hb;have hB2:B<=wr.heap.size:=ak hB hb.size;have c0:=cell_of_one hpv;have f0:=free_of_one hpv;clear hpv hown hb
 by_cases hlt:k<n
 ·have i1:(k:Int)<(n:Int):=by omega
  have oD:=zh (HS.o k (by rw[HL.o];exact hlt));have Cf:IntKind.u8.wrap ((c:Int)/2^(8*k))=((sW l k).toNat:Int):=by rw[HA.o k hlt,<- UM c _];simp[IntKind.wrap,IntKind.signed,IntKind.bits]
  generalize sW l k=x at *;have j1:IntKind.i64.wrap (8*(k:Int))=8*(k:Int):=aF _ (by omega);have j2:(0:Int)<=8*(k:Int):=by omega
  have j3:(8*(k:Int)).toNat=8*k:=by omega
  have j4:8*(k:Int)<64:=by omega
  have Q5:p<wr.heap.size:=bW _ _ c0
  have Cw:=zh (fun o W (h:((wr.alloc o).drew).grownBy W v.ownBlock)=>show W.heap[p]?=some (.cells #[v] 203 (0,0)) from by
   rw[h.block p (by simp;omega) (fun e=>vJ HO.o MQ.o (by decide) e.symm)]
   exact (Below.heap_alloc wr o p Q5).trans MQ.o)
  go_wp2_with fail
  go_region_law ((refine wP (by rfl) (.tmp 15) (.tmp 21) 54 (by rfl) vv B (by rfl) ((HO.o.alloc _).drew) (by rfl) (Rd.drew (R7 wr x _)) (xJ [x]) (by unfold maxLen;omega) (by omega) (by simp;omega) ?_;intro v2 w2 eM fu hv2;clear hv2;obtain ⟨jD,jE,hv2,_,_,_⟩:=zG eM;subst hv2;have hp2:=Cw.o _ _ fu;have c2:=cell_of_one hp2;have f2:=free_of_one hp2))
  all_goals
   have J6:=one_setCell (u:=.slice jD (l0.length+k+1) jE) hp2;have lD:=tK eM (p:=⟨p,0,none⟩) (vJ eM hp2 (by decide)) (.slice jD (l0.length+k+1) jE);have f_:=(zK (zV (Hb.o.alloc hB2 _)) ((HO.o.alloc _).drew) (by simp;omega) fu).setCell (p:=⟨p,0,none⟩) hp (.slice jD (l0.length+k+1) jE);clear fu hp2 c2 f2 Cf j1 j2 j3 j4 eM;go_wp2_with fail;exact ⟨⟨k+1,_,by go_num,by omega,J6,by rw[oD.o,<- aY,aU];exact lD,f_⟩,by simp[intOf];omega⟩
 obtain rfl:n=k:=by omega
 have i1:¬ (n:Int)<(n:Int):=by omega
 have HF:=zh (vz HO.o (by rw[<- HL.o,HE.o]));go_wp2_with fail;go_end0;exact ⟨rfl,⟨v,MQ.o,HF.o⟩,Hb.o⟩
end Go.Proofs.YtcgfilmmokmdjaaGreat
