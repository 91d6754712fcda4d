import Derived.Test.YtcgfilmmokmdjaaGreatVw
import Derived.Laws.Bits64
import Derived.Laws.Bits64b
import Derived.RegionTactic
set_option linter.all false
set_option maxRecDepth 100000
set_option maxHeartbeats 32000000
namespace Go.Proofs.YtcgfilmmokmdjaaGreat
open Go.Proofs.Tryz
open Go.RowKit
def fresh (num:Int):Gn:=⟨num,0,1,16,fun _=>[],0,0⟩
def Pb (w:World):fN w Sl.nil (fun _=>[]):=fun _ _=>jy.nil 4 jk w
def V4 (num:Int):xQ (fresh num).m=true:=by
 rw[zi];exact ⟨fun _ _=>rfl,fun _ _ x hx=>(by cases hx),rfl,cL _,by show (0:Int)<=1099511627776;decide⟩
def V8 (num:Int):lI (fresh num)↔1<=num/\num<=8:=by
 constructor
 ·intro h;exact h.num
 intro h;refine ⟨h,⟨cL _,by show (0:Int)<=_;decide⟩,?_,?_,V4 num,rfl,rfl⟩
 ·show (1:Int)<=1/\(1:Int)<=3;decide
 show (16:Int)<=16/\(16:Int)<=1048576/\(16:Int)%8=0;decide
def zDf (num:Int) (hn:1<=num/\num<=8) (w:World):Calls prog 60 #[.int .i64 num] w fun e w'=>e=.returned (.tuple #[ze num 0 1 16 Sl.nil 0 0,.int .i64 0])/\Below w.heap.size w w':=by
 have HV:=zh (fun W=>uQ (fresh num) Sl.nil W (Pb W) (fun _ _=>aq _));rw[(yM _).2 ((V8 num).2 hn)] at HV;dsimp only[fresh] at HV;have HN:=zh (fun W=>zLx W);have HB:=zh (zT w 0 0 0 0 Sl.nil 0 0 38);have HR:=zh (eU.new w 0 0 0 0 Sl.nil 0 0 38);clear hn;generalize hnil:Sl.nil=s0 at *;have Gj:=zh hnil;clear hnil
 go_enter func60,ntmps60
 go_wp2_with fail;refine (HN.o _).mono ?_;rintro e w1 ⟨rfl,hb1⟩;obtain ⟨W0,hW0⟩:∃ W0,w.alloc (.cells (zU 0 0 0 0 s0 0 0) 38)=W0:=⟨_,rfl⟩
 have oK:Below (w.alloc (.cells (zU 0 0 0 0 s0 0 0) 38)).heap.size (w.alloc (.cells (zU 0 0 0 0 s0 0 0) 38)) w1:=by
  rw[<- Gj.o];exact hb1
 rw[hW0] at oK HB HR;have eV:=zh (zA HB.o oK);have fL:=zh (HR.o.bb oK);clear hb1 oK HB HR hW0;have LK:=fL.o.lt;generalize hb0:w.heap.size=b0 at *;have E0:=zh hb0;clear hb0;go_upto_region 2 with fail;obtain ⟨W,hW⟩:∃ W,w1.alloc (.cells (zU num 0 1 16 s0 0 0) 38)=W:=⟨_,rfl⟩
 have HX:=zh (eU.new w1 num 0 1 16 s0 0 0 38);have eO:=zh (zT w1 num 0 1 16 s0 0 0 38);change Code.wp _ _ _ _ (w1.alloc (.cells (zU num 0 1 16 s0 0 0) 38));rw[hW] at HX eO |-;clear hW;have iq:=zh (fL.o.bb eO.o);have eX:=zh (k_ eV.o (bT LK) eO.o);have LJ:=HX.o.lt;obtain ⟨m0,m1,m2,m3,m4,m5,m6,m7,m8,m9,m10,m11,m12,m13⟩:=HX.o.q;go_wp2_with fail;refine (HV.o _).mono ?_;rintro e w2 ⟨rfl,hb2⟩;clear m0 m1 m2 m3 m4 m5 m6 m7 m8 m9 m10 m11 m12 m13;have i_:=zh (HX.o.bb hb2);have ng:=zh (iq.o.bb hb2);have f_:=zh (k_ eX.o (bT iq.o.lt) hb2);have ajL:=ng.o.lt;have ajM:=i_.o.lt;have hne:b0≠w1.heap.size:=by omega
 clear hb2 HX iq eX HV HN fL eV eO LJ;generalize w1.heap.size=b1 at *;obtain ⟨m0,m1,m2,m3,m4,m5,m6,m7,m8,m9,m10,m11,m12,m13⟩:=i_.o.q;obtain ⟨d0,d1,d2,d3,d4,d5,d6,d7,d8,d9,d10,d11,d12,d13⟩:=ng.o.q;have F:=ng.o.f;go_wp2_with fail;change bodyPost _ _ _ _ _ (pts w2 b0 (zS num 0 1 16 s0 0 0));have hby:=ng.o.all num 0 1 16 s0 0 0;have eN:=zh (zC (B:=b0) (ag _) (zS num 0 1 16 s0 0 0) f_.o);generalize pts w2 b0 (zS num 0 1 16 s0 0 0)=V at *;exact au (v:=.tuple #[ze num 0 1 16 s0 0 0,.int .i64 0]) (by simp[results,results60,go_sem,hby.q]) rfl ⟨rfl,by rw[E0.o];exact eN.o⟩
def yu (i l:Int) (r:Bool) (a:Option Addr) (n c:Nat) (L:List GP) (w:World) (h:fB w (.slice a n c) L) (hs:∀ p∈L,∀ j,j<8->(p.1.m.st j).length<=10000) :
  Calls prog 47 #[zQ i l r a n c] w fun e w'=>e=.returned (.bool (zb ⟨i,l,r,ey L⟩))/\Below w.heap.size w w':=by
 have fT:L.length=n:=by
  obtain ⟨_,_,e,_⟩:=h.shape;injection e with _ e _;exact e.symm
 by_cases hA:0<=i/\i<4/\4136<=l/\l<=262144
 ·by_cases hn:1<=n/\n<=8
  ·exact zGi i l r a n c L w hA hn h hs
  have hf:zb ⟨i,l,r,ey L⟩=false:=kD fun hv=>hn (by have:=hv.len;rw[zk,fT] at this;exact this)
  rw[hf];exact zGk i l r a n c w hA (by omega)
 have hf:zb ⟨i,l,r,ey L⟩=false:=kD fun hv=>hA ⟨hv.id.1,hv.id.2,hv.lim.1,hv.lim.2⟩
 rw[hf];exact zGS i l r a n c w hA
def xk (key:Int):Int:=bits .xor .u64 (bits .and .u64 key 4294967295) (key/4294967296)
def EE:List GP:=[(fresh 1,Sl.nil)]
def SG (i l:Int) (r:Bool) (hA:0<=i/\i<4/\4136<=l/\l<=262144):zb ⟨i,l,r,ey EE⟩=true:=by
 rw[zX];have hl:(ey EE).length=1:=rfl;have hg:fh (ey EE) 0=fresh 1:=rfl;refine ⟨⟨hA.1,hA.2.1⟩,hA.2.2,⟨ag _,by show (1:Nat)<=8;decide⟩,fun k hk=>?_,?_⟩
 ·have h0:k=0:=by
   have:k<1:=hk;omega
  subst h0;refine ⟨by show we (fresh 1)=true;rw[yM];exact (V8 1).2 (by decide),fun h=>absurd h (by decide),⟨fun _=>rfl,fun _=>rfl⟩,?_⟩
  show (16:Int)<=2*l
  omega
 show (fresh 1).size+(((zN (fresh 1).m).length*24:Nat):Int)<=2*l
 have hit:zN (fresh 1).m=[]:=by
  unfold zN;rw[ah (V4 1)]
  rfl
 rw[hit]
 show (16:Int)+0<=2*l
 omega
def SH {w:World} {b:Nat} (h:q_ w b 0 (fresh 1,Sl.nil)):fB w (.slice (some ⟨b,0,none⟩) 1 1) EE:=by
 refine ⟨⟨fun x _=>tJ x,?_⟩,fun p hp=>?_⟩
 ·refine ⟨rfl,some ⟨b,0,none⟩,1,rfl,ag _,by unfold maxLen;decide,fun h=>(by cases h),fun _=>⟨b,0,rfl,fun j u hj=>?_⟩⟩;have hj':(iM (fresh 1,Sl.nil))[j]?=some u:=by simpa [EE] using hj
  have hlt:j<14:=(List.getElem?_eq_some_iff.1 hj').1;rw[aN];rcases (show j=0∨j=1∨j=2∨j=3∨j=4∨j=5∨j=6∨j=7∨j=8∨j=9∨j=10∨j=11∨j=12∨j=13 by omega) with e|e|e|e|e|e|e|e|e|e|e|e|e|e<;>subst e<;>injection hj' with hj'<;>subst hj'
  ·exact h.n0
  ·exact h.n1
  ·exact h.n2
  ·exact h.n3
  ·exact h.c0
  ·exact h.c1
  ·exact h.c2
  ·exact h.c3
  ·exact h.c4
  ·exact h.c5
  ·exact h.c6
  ·exact h.c7
  ·exact h.cl
  exact h.cg
 have:p=(fresh 1,Sl.nil):=by simpa [EE] using hp
 subst this;exact Pb w
def zKQ (i l:Int) (hA:0<=i/\i<4/\4136<=l/\l<=262144) (w:World):Calls prog 63 #[.int .i64 i,.int .i64 l] w fun e w'=>∃ b,e=.returned (.tuple #[zQ i l false (some ⟨b,0,none⟩) 1 1,.int .i64 0])/\w.heap.size<=b/\q_ w' b 0 (fresh 1,Sl.nil)/\Below w.heap.size w w':=by
 have HF:=zh (fun W=>zDf 1 (by decide) W)
 have HV:=zh (fun b W (h:q_ W b 0 (fresh 1,Sl.nil))=>yu i l false (some ⟨b,0,none⟩) 1 1 EE W (SH h) (fun p hp j _=>by
  have:p=(fresh 1,Sl.nil):=by simpa [EE] using hp
  subst this
  exact aq _))
 rw[SG i l false hA] at HV;have HB:=zh (zR w 0 0 false none 0 0 27);have HR:=zh (fp.new w 0 0 false none 0 0 27);clear hA
 go_enter func63,ntmps63
 go_wp2_with fail;refine (HF.o _).mono ?_;rintro e w1 ⟨rfl,hb1⟩;obtain ⟨W0,hW0⟩:∃ W0,w.alloc (.cells (zM 0 0 false none 0 0) 27)=W0:=⟨_,rfl⟩
 have oK:Below (w.alloc (.cells (zM 0 0 false none 0 0) 27)).heap.size (w.alloc (.cells (zM 0 0 false none 0 0) 27)) w1:=hb1;rw[hW0] at oK HB HR;have eV:=zh (zA HB.o oK);have fL:=zh (HR.o.bb oK);clear hb1 oK HB HR hW0 HF;have LK:=fL.o.lt;generalize hb0:w.heap.size=b0 at *;have E0:=zh hb0;clear hb0;generalize hnil:Sl.nil=s0 at *;have Gj:=zh hnil;clear hnil;go_upto_region 2 with fail;obtain ⟨W,hW⟩:∃ W,w1.alloc (.cells (zU 1 0 1 16 s0 0 0) 38)=W:=⟨_,rfl⟩
 have HX:=zh (eU.new w1 1 0 1 16 s0 0 0 38);have eO:=zh (zT w1 1 0 1 16 s0 0 0 38);change Code.wp _ _ _ _ (w1.alloc (.cells (zU 1 0 1 16 s0 0 0) 38));rw[hW] at HX eO |-;clear hW;have iq:=zh (fL.o.bb eO.o);have eX:=zh (k_ eV.o (bT LK) eO.o);have LJ:=HX.o.lt;obtain ⟨m0,m1,m2,m3,m4,m5,m6,m7,m8,m9,m10,m11,m12,m13⟩:=HX.o.q;go_upto_region 3 with fail;change Code.wp _ _ _ _ ((W.alloc (.cells (zU 1 0 1 16 s0 0 0) 38)).alloc (.cells (zM i l false (some ⟨W.heap.size,0,none⟩) 1 1) 27));obtain ⟨W2,hW2⟩:∃ W2,W.alloc (.cells (zU 1 0 1 16 s0 0 0) 38)=W2:=⟨_,rfl⟩
 have hz2:W2.heap.size=W.heap.size+1:=by rw[<- hW2];simp
 have lW:Hid (q_ W2 W.heap.size 0 (fresh 1,s0)):=zh (hW2▸q_.Gh (g:=fresh 1) (eU.new W 1 0 1 16 s0 0 0 38));have h_:Hid (Below W.heap.size W W2):=zh (hW2▸zT W 1 0 1 16 s0 0 0 38);rw[hW2];clear hW2;obtain ⟨W3,hW3⟩:∃ W3,W2.alloc (.cells (zM i l false (some ⟨W.heap.size,0,none⟩) 1 1) 27)=W3:=⟨_,rfl⟩
 have BJ:Hid (fp W3 (W.heap.size+1) i l false (some ⟨W.heap.size,0,none⟩) 1 1):=zh (hz2▸hW3▸fp.new W2 i l false (some ⟨W.heap.size,0,none⟩) 1 1 27);have jK:Hid (Below W2.heap.size W2 W3):=zh (hW3▸zR W2 i l false (some ⟨W.heap.size,0,none⟩) 1 1 27);rw[hW3];clear hW3;have LM:=zh (lW.o.bb jK.o);have hab:=zA h_.o jK.o;have ng:=zh (iq.o.bb hab);have f_:=zh (k_ eX.o (bT iq.o.lt) hab);have hl3:=BJ.o.lt;have hbW:b0<W.heap.size:=iq.o.lt;clear m0 m1 m2 m3 m4 m5 m6 m7 m8 m9 m10 m11 m12 m13 HX eO iq eX lW h_ jK hab fL eV LJ LK;obtain ⟨x0,x1,x2,x3⟩:=BJ.o.q;generalize hgb:W.heap.size=gb at *;clear hgb;go_wp2_with fail;refine (HV.o _ _ LM.o).mono ?_;rintro e w4 ⟨rfl,hb4⟩;have Fl:=zh (LM.o.bb hb4);have lB:=zh (ng.o.bb hb4);have rA:=zh (BJ.o.bb hb4);have gq:=zh (k_ f_.o (bT ng.o.lt) hb4)
 have hl4:=rA.o.lt;have V_:=lB.o.lt;clear x0 x1 x2 x3 hb4 LM ng BJ f_ HV hl3;obtain ⟨x0,x1,x2,x3⟩:=rA.o.q;obtain ⟨d0,d1,d2,d3⟩:=lB.o.q;have F:=lB.o.f;have hne:b0≠gb+1:=by omega
 go_wp2_with fail;change bodyPost _ _ _ _ _ (pts w4 b0 (zI i l false (some ⟨gb,0,none⟩) 1 1));have hby:=lB.o.all i l false (some ⟨gb,0,none⟩) 1 1;have eN:=zh (zC (B:=b0) (ag _) (zI i l false (some ⟨gb,0,none⟩) 1 1) gq.o);have LN:=zh (Fl.o.eL (show gb≠b0 by omega) (zI i l false (some ⟨gb,0,none⟩) 1 1));generalize pts w4 b0 (zI i l false (some ⟨gb,0,none⟩) 1 1)=V at *;exact au (v:=.tuple #[zQ i l false (some ⟨gb,0,none⟩) 1 1,.int .i64 0]) (by simp[results,results63,go_sem,hby.c0,hby.c1,hby.c2,hby.c3]) rfl ⟨gb,rfl,by rw[E0.o];omega,by rw[Gj.o];exact LN.o,by rw[E0.o];exact eN.o⟩
def zId (i l:Int) (r:Bool) (a:Option Addr) (n c:Nat) (L:List GP) (w:World) (h:fB w (.slice a n c) L) (hs:∀ p∈L,∀ j,j<8->(p.1.m.st j).length<=10000) (hv:zb ⟨i,l,r,ey L⟩=true) (m:Nat) (hm:m<=4096) :
  Calls prog 36 #[zQ i l r a n c,.int .i64 (m:Int)] w fun e w'=>e=.returned (.bool (decide ((pat L (n-1)).1.size+((eY m:Nat):Int)<=l)))/\Below w.heap.size w w':=by
 have hV:=(zX _).1 hv;have fT:L.length=n:=by
  obtain ⟨_,_,e,_⟩:=h.shape;injection e with _ e _;exact e.symm
 have hl:(ey L).length=n:=by rw[zk,fT]
 have hn:1<=n/\n<=8:=by have:=hV.len;simp only[hl] at this;exact this
 obtain ⟨j,rfl⟩:∃ j,n=j+1:=⟨n-1,by omega⟩
 have hg:=hV.vg (i:=j) (by show j<(ey L).length;omega);simp only[yj] at hg;have hz1:=hg.size.1;have hz2:=hg.size.2.1;have fV:=zh (fun W (hb:Below w.heap.size w W)=>yu i l r a (j+1) c L W (h.bb hb) hs);rw[hv] at fV;have HZ:=zh (fun W=>(Ox m W).mono (R':=fun e w'=>e=.returned (.int .i64 ((eY m:Nat):Int))/\Below W.heap.size W w') fun _ _ ⟨he,hw⟩=>⟨he,hw▸aj _ _⟩);have Wb:eY m<=4127:=wI m;have Fk:j+1-1=j:=by omega
 rw[Fk];have HR:=zh h;have eO:=zh (fp.new w i l r a (j+1) c 27);have eP:=zh (zR w i l r a (j+1) c 27);have e1:decide ((m:Int)<0)=false:=by simp
 have e2:decide ((4096:Int)<(m:Int))=false:=by simp;omega
 clear hV fT hl hg hv h hs Fk;generalize eY m=z at *;obtain ⟨b,off,rfl,hg⟩:=HR.o.at (show j<j+1 by omega);have HG:=zh hg;clear hg HR;generalize pat L j=p at *;obtain ⟨⟨num,rev,md,sz,f,LV,GA⟩,s⟩:=p;dsimp only at *
 go_enter func36,ntmps36
 go_upto_region 1 with fail;obtain ⟨W,hW⟩:∃ W,w.alloc (.cells (zM i l r (some ⟨b,off,none⟩) (j+1) c) 27)=W:=⟨_,rfl⟩
 change Code.wp _ _ _ _ (w.alloc (.cells (zM i l r (some ⟨b,off,none⟩) (j+1) c) 27));rw[hW] at eO eP |-;clear hW;have pH:=eO.o.lt;obtain ⟨k0,k1,k2,k3⟩:=eO.o.q;go_wp2_with fail;refine (fV.o _ eP.o).mono ?_;rintro e w1 ⟨rfl,hb1⟩;clear k0 k1 k2 k3;have eV:=zh (zA eP.o hb1);have fG:=zh (eO.o.bb hb1);have rG:=zh (HG.o.bb eV.o);have Cl:=fG.o.lt;clear hb1 eP eO HG fV;have j3:IntKind.i64.wrap (j:Int)=(j:Int):=aF _ (by omega);have i2:(j:Int)<((j+1:Nat):Int):=by omega
 have j5:IntKind.i64.wrap (sz+(z:Int))=sz+(z:Int):=aF _ (by omega);go_wp2_with fail;have v1:=zB fG.o.c1;have v3:=zB fG.o.c3;have g3:=zB rG.o.n3;dsimp only at g3;refine zD (by kernel_rfl) (by kernel_rfl) ?_
 repeat (go_big_quiet_step ((exact zH (HZ.o _))))
 refine ay ?_;intro _ hw';obtain ⟨q,hw'⟩:=hw';subst hw';have HQ:=zh (zA eV.o q.h);clear v1 v3 g3;go_wp2_with fail;go_ret;exact ⟨rfl,HQ.o⟩
def yq:fk:=⟨0,0,false,[]⟩
def zZ (s:fk):Gn:=fh s.ep (s.ep.length-1)
noncomputable def wU (s:fk):Int×Gn:=if zb s=true then (0,zZ s) else (1,gX)
noncomputable def wu (s:fk):Bool:=zb s&&decide ((zZ s).num<8)
noncomputable def xA (s:fk) (n:Int):Bool:=zb s&&(decide (0<=n)&&decide (n<=4096))&&decide ((zZ s).size+(eY n.toNat:Nat)<=s.lim)
def uS (l:List Gn) (key:Int):Nat->List Int
 |0=>[]
 |n+1=>uS l key n++(match zl (fh l n).m key with|some _=>[(fh l n).num]|none=>[])
noncomputable def zd (s:fk) (key:Int):List Int:=if zb s=true then uS s.ep key (s.ep.length-1) else []
def Wc (l:List Gn) (key:Int):∀ n m,m<=n->((xp l key n).reverse.filter fun x=>decide (x.at_<m)).map (·.gen)=uS l key m
 |0,m,h=>by
  obtain rfl:m=0:=by omega
  rfl
 |n+1,m,h=>by
  unfold xp;rw[List.reverse_append,cU,aU]
  by_cases hm:m<=n
  ·rw[Wc l key n m hm]
   cases hg:zl (fh l n).m key with
   |none=>simp
   |some x=>simp[show ¬ n<m by omega]
  obtain rfl:m=n+1:=by omega
  have hr:=Wc l key n n (ag _);have hall:∀ k,∀ x∈xp l key k,x.at_<k:=by
   intro k
   induction k with
   |zero=>intro x hx;cases hx
   |succ k ih =>
    intro x hx;unfold xp at hx;rcases List.mem_append.1 hx with hx|hx
    ·cases hg:zl (fh l k).m key with
     |none=>rw[hg] at hx;cases hx
     |some y=>rw[hg] at hx;obtain rfl:=List.mem_singleton.1 hx;exact dy k
    exact Nat.lt_succ_of_lt (ih x hx)
  have e1:((xp l key n).reverse.filter fun x=>decide (x.at_<n+1))=(xp l key n).reverse.filter fun x=>decide (x.at_<n):=by
   refine List.filter_congr fun x hx=>?_
   have:=hall n x (List.mem_reverse.1 hx);simp[this,Nat.lt_succ_of_lt this]
  rw[e1,hr]
  show _=uS l key n++_
  cases hg:zl (fh l n).m key with
  |none=>simp
  |some x=>simp
noncomputable def zOO (i l:Int):fk×Int:=if zb ⟨i,l,false,[fresh 1]⟩=true then (⟨i,l,false,[fresh 1]⟩,0) else (yq,1)
noncomputable def xb (s:fk):fk×Int:=
 if zb s=true then (if (zZ s).num<8 then (⟨s.id,s.lim,s.ro,s.ep.take (s.ep.length-1)++[{zZ s with mode:=2},fresh ((zZ s).num+1)]⟩,0) else (yq,9)) else (yq,1)
def t7 (l:List Gn) (g:Gn):List Gn:=l.map fun x=>if x.num=g.num then g else x
noncomputable def yS (s:fk) (g:Gn):fk×Int:=
 if zb s=true then (if (s.ep.any fun x=>decide (x.num=g.num))=true then (if zb ⟨s.id,s.lim,s.ro,t7 s.ep g⟩=true then (⟨s.id,s.lim,s.ro,t7 s.ep g⟩,0) else (yq,1)) else (yq,6)) else (yq,1)
def DZ (g:Gn) (x:Nd):It:=⟨(x.key:Int),(x.ck:Int),g.size,(x.data.length:Int)⟩
def yp (g:Gn) (x:Nd):Gn:={g with m:=if x.del then xS (yX g.m x.key) (eY x.data.length:Nat) else wv g.m (DZ g x),size:=g.size+(eY x.data.length:Nat)}
def zm (g:Gn) (l:List Nd):Gn:=l.foldl yp g
def jt (l:List Nd):Nat:=(l.map fun x=>eY x.data.length).sum
instance (x:Nd):Decidable x.ok:=by unfold Nd.ok;infer_instance
def Fm (l:List Nd):Bool:=l.all fun x=>decide x.ok
def yZ (g:Gn) (l:List Nd):Int×Gn:=if we g=true/\Fm l=true then (if g.mode=1 then (if g.size+(jt l:Int)<=1048576 then (0,zm g l) else (9,gX)) else (12,gX)) else (1,gX)
def yh (g:Gn) (l:List Int):Int×Gn:=if we g=true then (if g.mode=1 then (12,gX) else (0,{g with m:=l.foldl yX g.m})) else (1,gX)
def wE (g:Gn) (fU:Int):Int×Gn:=if we g=true then (if g.mode=fU then (0,{g with mode:=fU+1}) else (12,gX)) else (1,gX)
def zN4 (w0:World) (p:Int×Gn) (e:Ending) (w':World):Prop:=(∃ s,e=.returned (.tuple #[ze p.2.num p.2.rev p.2.mode p.2.size s p.2.m.live p.2.m.ew,.int .i64 p.1])/\fN w' s p.2.m.st)/\Below w0.heap.size w0 w'
def NC (w0:World) (p:Int×Gn) (e:Ending) (w':World):Prop:=(∃ s,e=.returned (.tuple #[ze p.2.num p.2.rev p.2.mode p.2.size s p.2.m.live p.2.m.ew,.int .i64 p.1])/\fA w' w0.heap.size s p.2.m.st)/\Below w0.heap.size w0 w'
def uV (M:Mp):xS M 0=M:=by
 unfold xS
 split
 ·rw[Int.add_zero]
 rfl
def zHg:jt []=0:=rfl
def vj (x:Nd) (l:List Nd):jt (x::l)=eY x.data.length+jt l:=by simp[jt]
def zBV (g:Gn) (l:List Nd) (x:Nd):zm g (l++[x])=yp (zm g l) x:=by simp[zm]
def SI (l:List Nd) (x:Nd):jt (l++[x])=jt l+eY x.data.length:=by simp[jt]
def uj (g:Gn) (x:Nd):(yp g x).size=g.size+(eY x.data.length:Nat):=rfl
def vm (g:Gn):∀ l,(zm g l).size=g.size+(jt l:Nat)
 |[]=>by simp[zm,jt]
 |x::r=>by
  have:=vm (yp g x) r;rw[uj] at this
  show (zm (yp g x) r).size=_
  rw[this,vj];omega
def zBs (g:Gn) (x:Nd):(yp g x).num=g.num/\(yp g x).rev=g.rev/\(yp g x).mode=g.mode:=⟨rfl,rfl,rfl⟩
def kW:∀ (l:List Nd) (g:Gn),(zm g l).num=g.num/\(zm g l).rev=g.rev/\(zm g l).mode=g.mode
 |[],_=>⟨rfl,rfl,rfl⟩
 |x::r,g=>by
  have:=kW r (yp g x);exact this
def zI7 (M:Mp) (x:It) {n:Nat} (h:∀ i,i<8->(M.st i).length<=n):∀ i,i<8->((wv M x).st i).length<=n+1:=fun i hi=>by
 unfold wv
 split
 ·show (if i=zp x.key then ins (M.st i) x else M.st i).length<=n+1
  have h1:=uJ x (M.st i);have h2:=h i hi
  split<;>omega
 have h2:=h i hi;omega
def qw (M:Mp) (k:Int) {n:Nat} (h:∀ i,i<8->(M.st i).length<=n):∀ i,i<8->((yX M k).st i).length<=n:=fun i hi=>by
 unfold yX
 split
 ·exact h i hi
 split
 ·show (if i=zp k then iB (M.st i) k else M.st i).length<=n
  have h1:=tM (M.st i) k;have h2:=h i hi
  split<;>omega
 exact h i hi
def uu (M:Mp) (z:Int):(xS M z).st=M.st:=by unfold xS;split<;>rfl
def zGH (g:Gn) (x:Nd) {n:Nat} (h:∀ i,i<8->(g.m.st i).length<=n):∀ i,i<8->((yp g x).m.st i).length<=n+1:=fun i hi=>by
 unfold yp;dsimp only
 split
 ·rw[uu];exact Nat.le_succ_of_le (qw _ _ h i hi)
 exact zI7 _ _ h i hi
def ws:∀ (l:List Nd) (g:Gn) {n:Nat},(∀ i,i<8->(g.m.st i).length<=n)->∀ i,i<8->((zm g l).m.st i).length<=n+l.length
 |[],_,_,h=>h
 |x::r,g,n,h=>fun i hi=>by
  have:=ws r (yp g x) (zGH g x h) i hi;rw[aW];exact ak this (by omega)
def wm:∀ (l:List Int) (M:Mp) {n:Nat},(∀ i,i<8->(M.st i).length<=n)->∀ i,i<8->((l.foldl yX M).st i).length<=n
 |[],_,_,h=>h
 |x::r,M,_,h=>wm r (yX M x) (qw M x h)
def vS (w:World) (n r md z:Int) (s:Sl) (l g:Int) (t:TypeId):∃ W,(w.alloc (.cells (zU n r md z s l g) t)).alloc (.cells (zU 0 0 0 0 Sl.nil 0 0) t)=W/\eU W w.heap.size n r md z s l g/\eU W (w.heap.size+1) 0 0 0 0 Sl.nil 0 0/\Below w.heap.size w W:=by
 refine ⟨_,rfl,(eU.new w n r md z s l g t).bb (zT _ 0 0 0 0 Sl.nil 0 0 t),?_,zA (zT w n r md z s l g t) (zT _ 0 0 0 0 Sl.nil 0 0 t)⟩;have:=eU.new (w.alloc (.cells (zU n r md z s l g) t)) 0 0 0 0 Sl.nil 0 0 t
 rwa [cm] at this
def zLT (g:Gn) (s:Sl) (fU:Int) (w:World) (h:fN w s g.m.st) (hs:∀ i,i<8->(g.m.st i).length<=10000) :
  Calls prog 104 #[ze g.num g.rev g.mode g.size s g.m.live g.m.ew,.int .i64 fU] w (NC w (wE g fU)):=by
 have HV:=zh (fun W (hb:Below w.heap.size w W)=>uQ g s W (h.bb hb) hs);have HW:=zh (fun W (hb:Below w.heap.size w W)=>uN s g.m 0 W (h.bb hb) hs);rw[uV] at HW;have jC:Hid (∀ W,fA W w.heap.size Sl.nil gX.m.st):=zh (fun W=>fA.nil W _);have HG:Hid (wE g fU=if we g=true then (if g.mode=fU then (0,{g with mode:=fU+1}) else (12,gX)) else (1,gX)):=zh (rfl);have Ff:Hid (we g=true->1<=g.mode/\g.mode<=3):=zh (fun hv=>((yM g).1 hv).mode);generalize we g=vb at *;obtain ⟨n,r,md,z,⟨f,L,G⟩⟩:=g;dsimp only at *;generalize wE ⟨n,r,md,z,⟨f,L,G⟩⟩ fU=TG at *;obtain ⟨W,hW,fJ,hbr,fS⟩:=vS w n r md z s L G 38;have HX:=zh fJ;have HR:=zh hbr;have HB:=zh fS;clear fJ hbr fS h hs
 go_enter func104,ntmps104
 go_upto_region 1 with fail;change Code.wp _ _ _ _ ((w.alloc (.cells (zU n r md z s L G) 38)).alloc (.cells (zU 0 0 0 0 Sl.nil 0 0) 38));rw[hW];clear hW;obtain ⟨x0,x1,x2,x3,x4,x5,x6,x7,x8,x9,gP,gQ,gK,gM⟩:=HX.o.q;go_wp2_with fail;refine (HV.o _ HB.o).mono ?_;rintro e w1 ⟨rfl,hb1⟩;have fG:=zh (HX.o.bb hb1);have fL:=zh (HR.o.bb hb1);have eV:=zh (zA HB.o hb1);clear x0 x1 x2 x3 x4 x5 x6 x7 x8 x9 gP gQ gK gM;clear hb1 HX HR HB HV;have hlr:=fL.o.lt
 cases vb
 ·have jM:Hid (TG=(1,gX)):=zh (HG.o);obtain ⟨r0,r1,r2,r3,r4,r5,r6,r7,r8,r9,nL,mD,mR,pK⟩:=fL.o.q;have rf:=fL.o.f;go_wp2_with fail;change bodyPost _ _ _ _ _ (pts w1 (w.heap.size+1) (zS 0 0 0 0 Sl.nil 0 0));have hby:=fL.o.all 0 0 0 0 Sl.nil 0 0;have eN:=zh (zC (B:=w.heap.size) (b:=(w.heap.size+1)) (by omega) (zS 0 0 0 0 Sl.nil 0 0) eV.o);have iH:=jC.o (pts w1 (w.heap.size+1) (zS 0 0 0 0 Sl.nil 0 0));rw[jM.o];generalize pts w1 (w.heap.size+1) (zS 0 0 0 0 Sl.nil 0 0)=V at *;exact au (v:=.tuple #[ze 0 0 0 0 Sl.nil 0 0,.int .i64 1]) (by simp[results,results104,go_sem,hby.q]) rfl ⟨⟨_,rfl,iH⟩,eN.o⟩
 have ajU:=Ff.o rfl
 by_cases hm:md=fU
 ·subst hm;have jM:=zh (show TG=(0,⟨n,r,md+1,z,⟨f,L,G⟩⟩) by rw[HG.o,ah rfl,ah rfl]);clear HG Ff;obtain ⟨x0,x1,x2,x3,x4,x5,x6,x7,x8,x9,gP,gQ,gK,gM⟩:=fG.o.q;have xf:=fG.o.f;go_upto_region 6 with fail;change Code.wp _ _ _ _ (pts w1 w.heap.size [(2,.int .i64 (md+1))]);have fK:=zh (fG.o.O2 (md+1));have iq:=zh (fL.o.eL (show w.heap.size+1≠w.heap.size by omega) [(2,.int .i64 (md+1))]);have eX:=zh (zC (B:=w.heap.size) (b:=w.heap.size) (ag _) [(2,.int .i64 (md+1))] eV.o);have hz2:(pts w1 w.heap.size [(2,.int .i64 (md+1))]).heap.size=w1.heap.size:=wh _ _;generalize pts w1 w.heap.size [(2,.int .i64 (md+1))]=w2 at *;clear x0 x1 x2 x3 x4 x5 x6 x7 x8 x9 gP gQ gK gM xf;clear fG fL eV;obtain ⟨x0,x1,x2,x3,x4,x5,x6,x7,x8,x9,gP,gQ,gK,gM⟩:=fK.o.q;have xf:=fK.o.f;go_wp2_with fail
  refine (HW.o _ eX.o).mono ?_;rintro e w3 ⟨⟨s3,rfl,Ae⟩,hb3⟩;have i_:=zh (fK.o.bb hb3);have ng:=zh (iq.o.bb hb3);have f_:=zh (zA eX.o hb3);have lD:=zh (Ae.mono (show w.heap.size+2<=w2.heap.size by omega));clear x0 x1 x2 x3 x4 x5 x6 x7 x8 x9 gP gQ gK gM xf;clear hb3 Ae fK iq eX HW hz2;obtain ⟨x0,x1,x2,x3,x4,x5,x6,x7,x8,x9,gP,gQ,gK,gM⟩:=i_.o.q;have xf:=i_.o.f;go_upto_region 7 with fail;change Code.wp _ _ _ _ (pts w3 w.heap.size (xN s3 L G));have jf:=zh (i_.o.map s3 L G);have lB:=zh (ng.o.eL (show w.heap.size+1≠w.heap.size by omega) (xN s3 L G));have gq:=zh (zC (B:=w.heap.size) (b:=w.heap.size) (ag _) (xN s3 L G) f_.o);have iP:=zh (lD.o.pts (show w.heap.size<w.heap.size+2 by omega) (xN s3 L G));generalize pts w3 w.heap.size (xN s3 L G)=w4 at *;clear x0 x1 x2 x3 x4 x5 x6 x7 x8 x9 gP gQ gK gM xf;clear i_ ng f_ lD
  obtain ⟨x0,x1,x2,x3,x4,x5,x6,x7,x8,x9,gP,gQ,gK,gM⟩:=jf.o.q;obtain ⟨r0,r1,r2,r3,r4,r5,r6,r7,r8,r9,nL,mD,mR,pK⟩:=lB.o.q;have rf:=lB.o.f;go_wp2_with fail;change bodyPost _ _ _ _ _ (pts w4 (w.heap.size+1) (zS n r (md+1) z s3 L G));have hby:=lB.o.all n r (md+1) z s3 L G;have eN:=zh (zC (B:=w.heap.size) (b:=(w.heap.size+1)) (by omega) (zS n r (md+1) z s3 L G) gq.o);have iH:=(iP.o.pts (show w.heap.size+1<w.heap.size+2 by omega) (zS n r (md+1) z s3 L G)).mono (show w.heap.size<=w.heap.size+2 by omega);rw[jM.o];generalize pts w4 (w.heap.size+1) (zS n r (md+1) z s3 L G)=V at *;exact au (v:=.tuple #[ze n r (md+1) z s3 L G,.int .i64 0]) (by simp[results,results104,go_sem,hby.q]) rfl ⟨⟨_,rfl,iH⟩,eN.o⟩
 have jM:=zh (show TG=(12,gX) by rw[HG.o,ah rfl,ai hm]);have e0:(md==fU)=false:=beq_eq_false_iff_ne.2 hm;clear HG Ff;obtain ⟨x0,x1,x2,x3,x4,x5,x6,x7,x8,x9,gP,gQ,gK,gM⟩:=fG.o.q;obtain ⟨r0,r1,r2,r3,r4,r5,r6,r7,r8,r9,nL,mD,mR,pK⟩:=fL.o.q;have rf:=fL.o.f;go_wp2_with fail;change bodyPost _ _ _ _ _ (pts w1 (w.heap.size+1) (zS 0 0 0 0 Sl.nil 0 0));have hby:=fL.o.all 0 0 0 0 Sl.nil 0 0;have eN:=zh (zC (B:=w.heap.size) (b:=(w.heap.size+1)) (by omega) (zS 0 0 0 0 Sl.nil 0 0) eV.o);have iH:=jC.o (pts w1 (w.heap.size+1) (zS 0 0 0 0 Sl.nil 0 0));rw[jM.o];generalize pts w1 (w.heap.size+1) (zS 0 0 0 0 Sl.nil 0 0)=V at *;exact au (v:=.tuple #[ze 0 0 0 0 Sl.nil 0 0,.int .i64 12]) (by simp[results,results104,go_sem,hby.q]) rfl ⟨⟨_,rfl,iH⟩,eN.o⟩
variable {j:Nat}
def wZ {i l:Int} {r:Bool} {L:List GP} (h:L.length=j+1):zZ ⟨i,l,r,ey L⟩=(pat L j).1:=by
 unfold zZ
 show fh (ey L) ((ey L).length-1)=_
 rw[zk,h,yj]
 rfl
def kQ (i l:Int) (r:Bool) (a:Option Addr) (n c:Nat) (L:List GP) (w:World) (h:fB w (.slice a n c) L) (hs:∀ p∈L,∀ j,j<8->(p.1.m.st j).length<=10000) :
  Calls prog 35 #[zQ i l r a n c] w fun e w'=>e=.returned (.bool (wu ⟨i,l,r,ey L⟩))/\Below w.heap.size w w':=by
 have fV:=zh (fun W (hb:Below w.heap.size w W)=>yu i l r a n c L W (h.bb hb) hs);have eO:=zh (fp.new w i l r a n c 27);have eP:=zh (zR w i l r a n c 27);have hcs:wu ⟨i,l,r,ey L⟩=(zb ⟨i,l,r,ey L⟩&&decide ((zZ ⟨i,l,r,ey L⟩).num<8)):=rfl;rw[hcs];clear hcs
 cases hv:zb ⟨i,l,r,ey L⟩
 ·rw[hv] at fV;clear h hs hv
  go_enter func35,ntmps35
  go_upto_region 1 with fail;obtain ⟨W,hW⟩:∃ W,w.alloc (.cells (zM i l r a n c) 27)=W:=⟨_,rfl⟩
  change Code.wp _ _ _ _ (w.alloc (.cells (zM i l r a n c) 27));rw[hW] at eO eP |-;clear hW;have pH:=eO.o.lt;obtain ⟨k0,k1,k2,k3⟩:=eO.o.q;go_wp2_with fail;refine (fV.o _ eP.o).mono ?_;rintro e w1 ⟨rfl,hb1⟩;have eV:=zh (zA eP.o hb1);clear k0 k1 k2 k3 hb1;go_wp2_with fail;go_ret;exact ⟨rfl,eV.o⟩
 rw[hv] at fV;have hV:=(zX _).1 hv;have fT:L.length=n:=by
  obtain ⟨_,_,e,_⟩:=h.shape;injection e with _ e _;exact e.symm
 have hl:(ey L).length=n:=by rw[zk,fT]
 have hn:1<=n/\n<=8:=by have:=hV.len;simp only[hl] at this;exact this
 obtain ⟨j,rfl⟩:∃ j,n=j+1:=⟨n-1,by omega⟩
 rw[wZ fT];have HR:=zh h;clear hV fT hl hv h hs;obtain ⟨b,off,rfl,hg⟩:=HR.o.at (show j<j+1 by omega);have HG:=zh hg;clear hg HR;generalize pat L j=p at *;obtain ⟨⟨num,rev,md,sz,f,LV,GA⟩,s⟩:=p;dsimp only at *
 go_enter func35,ntmps35
 go_upto_region 1 with fail;obtain ⟨W,hW⟩:∃ W,w.alloc (.cells (zM i l r (some ⟨b,off,none⟩) (j+1) c) 27)=W:=⟨_,rfl⟩
 change Code.wp _ _ _ _ (w.alloc (.cells (zM i l r (some ⟨b,off,none⟩) (j+1) c) 27));rw[hW] at eO eP |-;clear hW;have pH:=eO.o.lt;obtain ⟨k0,k1,k2,k3⟩:=eO.o.q;go_wp2_with fail;refine (fV.o _ eP.o).mono ?_;rintro e w1 ⟨rfl,hb1⟩;clear k0 k1 k2 k3;have eV:=zh (zA eP.o hb1);have fG:=zh (eO.o.bb hb1);have rG:=zh (HG.o.bb eV.o);clear hb1 eP eO HG fV;have j3:IntKind.i64.wrap (j:Int)=(j:Int):=aF _ (by omega);have i2:(j:Int)<((j+1:Nat):Int):=by omega
 have v3:=fG.o.c3;have g0:=rG.o.n0;dsimp only at g0;go_wp2_with fail;go_ret;exact ⟨by simp,eV.o⟩
def kS (g:Gn) (s:Sl) (w:World) (h:fN w s g.m.st) (hs:∀ i,i<8->(g.m.st i).length<=10000) :
  Calls prog 48 #[ze g.num g.rev g.mode g.size s g.m.live g.m.ew] w fun e w'=>(∃ s',e=.returned (ze g.num g.rev g.mode g.size s' g.m.live g.m.ew)/\fA w' w.heap.size s' g.m.st)/\Below w.heap.size w w':=by
 have HW:=zh (fun W (hb:Below w.heap.size w W)=>uN s g.m 0 W (h.bb hb) hs);rw[uV] at HW;obtain ⟨n,r,md,z,⟨f,L,G⟩⟩:=g;dsimp only at *;obtain ⟨W,hW,fJ,hbr,fS⟩:=vS w n r md z s L G 38;have HX:=zh fJ;have HR:=zh hbr;have HB:=zh fS;clear fJ hbr fS h hs
 go_enter func48,ntmps48
 go_upto_region 1 with fail;change Code.wp _ _ _ _ ((w.alloc (.cells (zU n r md z s L G) 38)).alloc (.cells (zU 0 0 0 0 Sl.nil 0 0) 38));rw[hW];clear hW;obtain ⟨x0,x1,x2,x3,x4,x5,x6,x7,x8,x9,gP,gQ,gK,gM⟩:=HX.o.q;go_wp2_with fail;refine (HW.o _ HB.o).mono ?_;rintro e w1 ⟨⟨t,rfl,ho⟩,hb⟩;have hlr:=HR.o.lt;have ja:=zh (ho.mono (show w.heap.size+2<=W.heap.size by omega));have fG:=zh (HX.o.bb hb);have fL:=zh (HR.o.bb hb);have eV:=zh (zA HB.o hb);clear x0 x1 x2 x3 x4 x5 x6 x7 x8 x9 gP gQ gK gM;clear ho hb HX HR HB HW;have xf:=fG.o.f;obtain ⟨x0,x1,x2,x3,x4,x5,x6,x7,x8,x9,gP,gQ,gK,gM⟩:=fG.o.q;go_upto_region 2 with fail;clear xf;clear x0 x1 x2 x3 x4 x5 x6 x7 x8 x9 gP gQ gK gM;change Code.wp _ _ _ _ (pts w1 w.heap.size (xN t L G));have fK:=zh (fG.o.map t L G)
 have iq:=zh (fL.o.eL (show w.heap.size+1≠w.heap.size by omega) (xN t L G));have eX:=zh (zC (B:=w.heap.size) (b:=w.heap.size) (ag _) (xN t L G) eV.o);have gp:=zh (ja.o.pts (show w.heap.size<w.heap.size+2 by omega) (xN t L G));generalize pts w1 w.heap.size (xN t L G)=w2 at *;clear fG fL eV ja;obtain ⟨x0,x1,x2,x3,x4,x5,x6,x7,x8,x9,gP,gQ,gK,gM⟩:=fK.o.q;obtain ⟨y0,y1,y2,y3,y4,y5,y6,y7,y8,y9,Fo,Fp,Fq,Fs⟩:=iq.o.q;have rf:=iq.o.f;go_wp2_with fail;change bodyPost _ _ _ _ _ (pts w2 (w.heap.size+1) (zS n r md z t L G));have hby:=iq.o.all n r md z t L G;have eN:=zh (zC (B:=w.heap.size) (b:=(w.heap.size+1)) (by omega) (zS n r md z t L G) eX.o);have iH:=(gp.o.pts (show w.heap.size+1<w.heap.size+2 by omega) (zS n r md z t L G)).mono (show w.heap.size<=w.heap.size+2 by omega)
 generalize pts w2 (w.heap.size+1) (zS n r md z t L G)=V at *;exact au (v:=ze n r md z t L G) (by simp[results,results48,go_sem,hby.q]) rfl ⟨⟨_,rfl,iH⟩,eN.o⟩
def zHY (i l:Int) (r:Bool) (a:Option Addr) (n c:Nat) (L:List GP) (w:World) (h:fB w (.slice a n c) L) (hs:∀ p∈L,∀ j,j<8->(p.1.m.st j).length<=10000) :
  Calls prog 11 #[zQ i l r a n c] w (NC w (wU ⟨i,l,r,ey L⟩)):=by
 have fV:=zh (fun W (hb:Below w.heap.size w W)=>yu i l r a n c L W (h.bb hb) hs);have eO:=zh (fp.new w i l r a n c 27);have eP:=zh (zR w i l r a n c 27);have hcs:wU ⟨i,l,r,ey L⟩=if zb ⟨i,l,r,ey L⟩=true then (0,zZ ⟨i,l,r,ey L⟩) else (1,gX):=rfl
 cases hv:zb ⟨i,l,r,ey L⟩
 ·rw[hv] at fV;rw[hv,ai (by decide)] at hcs;have HC:=zh hcs;clear h hs hv hcs
  go_enter func11,ntmps11
  go_upto_region 1 with fail;obtain ⟨W,hW⟩:∃ W,w.alloc (.cells (zM i l r a n c) 27)=W:=⟨_,rfl⟩
  change Code.wp _ _ _ _ ((w.alloc (.cells (zM i l r a n c) 27)).alloc (.cells (zU 0 0 0 0 Sl.nil 0 0) 38));have hsz:W.heap.size=w.heap.size+1:=by rw[<- hW];simp
  rw[hW] at eO eP |-;clear hW;obtain ⟨W2,hW2⟩:∃ W2,W.alloc (.cells (zU 0 0 0 0 Sl.nil 0 0) 38)=W2:=⟨_,rfl⟩
  have HR:Hid (eU W2 (w.heap.size+1) 0 0 0 0 Sl.nil 0 0):=zh (by have:=eU.new W 0 0 0 0 Sl.nil 0 0 38;rw[hW2,hsz] at this;exact this);have eG:=zT W 0 0 0 0 Sl.nil 0 0 38;rw[hW2] at eG |-;have eX:=zh (zA eP.o eG);have fK:=zh (eO.o.bb eG);clear eG hW2;obtain ⟨k0,k1,k2,k3⟩:=fK.o.q;go_wp2_with fail;refine (fV.o _ eX.o).mono ?_;rintro e w1 ⟨rfl,hb1⟩;have eV:=zh (zA eX.o hb1);have fG:=zh (fK.o.bb hb1);have fL:=zh (HR.o.bb hb1);clear k0 k1 k2 k3 hb1 eX fK HR eO eP;have rf:=fL.o.f;obtain ⟨y0,y1,y2,y3,y4,y5,y6,y7,y8,y9,Fo,Fp,Fq,Fs⟩:=fL.o.q;go_wp2_with fail;change bodyPost _ _ _ _ _ (pts w1 (w.heap.size+1) (zS 0 0 0 0 Sl.nil 0 0));have hby:=fL.o.all 0 0 0 0 Sl.nil 0 0;have eN:=zh (zC (B:=w.heap.size) (b:=(w.heap.size+1)) (by omega) (zS 0 0 0 0 Sl.nil 0 0) eV.o)
  generalize pts w1 (w.heap.size+1) (zS 0 0 0 0 Sl.nil 0 0)=V at *;exact au (v:=.tuple #[ze 0 0 0 0 Sl.nil 0 0,.int .i64 1]) (by simp[results,results11,go_sem,hby.q]) rfl ⟨⟨Sl.nil,by rw[HC.o];first|done|rfl,by rw[HC.o];exact fA.nil _ _⟩,eN.o⟩
 rw[hv] at fV;rw[hv,ah rfl] at hcs;have hV:=(zX _).1 hv;have fT:L.length=n:=by
  obtain ⟨_,_,e,_⟩:=h.shape;injection e with _ e _;exact e.symm
 have hl:(ey L).length=n:=by rw[zk,fT]
 have hn:1<=n/\n<=8:=by have:=hV.len;simp only[hl] at this;exact this
 obtain ⟨j,rfl⟩:∃ j,n=j+1:=⟨n-1,by omega⟩
 rw[wZ fT] at hcs;have HC:=zh hcs;have jC:=zh h;have hmem:=yP (l:=L) (i:=j) (by omega);have lz:=zh (h.m _ hmem);have Fu:=zh (hs _ hmem);clear hV fT hl hv h hs hmem hcs;obtain ⟨b,off,rfl,hg⟩:=jC.o.at (show j<j+1 by omega);have HG:=zh hg;clear hg jC;generalize pat L j=p at *;obtain ⟨⟨num,rev,md,sz,⟨f,LV,GA⟩⟩,s⟩:=p;dsimp only at *
 go_enter func11,ntmps11
 go_upto_region 1 with fail;obtain ⟨W,hW⟩:∃ W,w.alloc (.cells (zM i l r (some ⟨b,off,none⟩) (j+1) c) 27)=W:=⟨_,rfl⟩
 change Code.wp _ _ _ _ ((w.alloc (.cells (zM i l r (some ⟨b,off,none⟩) (j+1) c) 27)).alloc (.cells (zU 0 0 0 0 Sl.nil 0 0) 38));have hsz:W.heap.size=w.heap.size+1:=by rw[<- hW];simp
 rw[hW] at eO eP |-;clear hW;obtain ⟨W2,hW2⟩:∃ W2,W.alloc (.cells (zU 0 0 0 0 Sl.nil 0 0) 38)=W2:=⟨_,rfl⟩
 have HR:Hid (eU W2 (w.heap.size+1) 0 0 0 0 Sl.nil 0 0):=zh (by have:=eU.new W 0 0 0 0 Sl.nil 0 0 38;rw[hW2,hsz] at this;exact this);have eG:=zT W 0 0 0 0 Sl.nil 0 0 38;rw[hW2] at eG |-;have eX:=zh (zA eP.o eG);have fK:=zh (eO.o.bb eG);clear eG hW2;obtain ⟨k0,k1,k2,k3⟩:=fK.o.q;go_wp2_with fail;refine (fV.o _ eX.o).mono ?_;rintro e w1 ⟨rfl,hb1⟩;have eV:=zh (zA eX.o hb1);have fG:=zh (fK.o.bb hb1);have fL:=zh (HR.o.bb hb1);clear k0 k1 k2 k3 hb1 eX fK HR eO eP;have rG:=zh (HG.o.bb eV.o);clear HG fV;have j3:IntKind.i64.wrap (j:Int)=(j:Int):=aF _ (by omega);have i2:(j:Int)<((j+1:Nat):Int):=by omega
 have v3:=fG.o.c3;obtain ⟨g0,g1,g2,g3,g4,g5,g6,g7,g8,g9,g10,g11,g12,g13⟩:=rG.o.q
 try dsimp only at g0 g1 g2 g3 g4 g5 g6 g7 g8 g9 g10 g11 g12 g13
 go_wp2_with fail;refine (kS ⟨num,rev,md,sz,⟨f,LV,GA⟩⟩ s w1 (lz.o.bb eV.o) Fu.o).mono ?_;rintro e w2 ⟨⟨t,rfl,ho⟩,hb2⟩;have hlr:=fL.o.lt;have gp:=zh (ho.mono (show w.heap.size+2<=w1.heap.size by omega));have iq:=zh (fL.o.bb hb2);have eX:=zh (zA eV.o hb2);clear ho hb2 fL eV fG rG v3;clear g0 g1 g2 g3 g4 g5 g6 g7 g8 g9 g10 g11 g12 g13;have rf:=iq.o.f;obtain ⟨y0,y1,y2,y3,y4,y5,y6,y7,y8,y9,Fo,Fp,Fq,Fs⟩:=iq.o.q;go_wp2_with fail;change bodyPost _ _ _ _ _ (pts w2 (w.heap.size+1) (zS num rev md sz t LV GA));have hby:=iq.o.all num rev md sz t LV GA;have eN:=zh (zC (B:=w.heap.size) (b:=(w.heap.size+1)) (by omega) (zS num rev md sz t LV GA) eX.o);have iH:=(gp.o.pts (show w.heap.size+1<w.heap.size+2 by omega) (zS num rev md sz t LV GA)).mono (show w.heap.size<=w.heap.size+2 by omega)
 generalize pts w2 (w.heap.size+1) (zS num rev md sz t LV GA)=V at *;exact au (v:=.tuple #[ze num rev md sz t LV GA,.int .i64 0]) (by simp[results,results11,go_sem,hby.q]) rfl ⟨⟨t,by rw[HC.o];first|done|rfl,by rw[HC.o];exact iH⟩,eN.o⟩
/-! ### From -/
def uq (T:List It) (j:Nat) (i:Nat):List It:=sr i (T.take j)
variable {T:List It}
def zJZ (h:j<T.length):uq T (j+1) (zp (eA T j).key)=uq T j (zp (eA T j).key)++[eA T j]:=by
 unfold uq sr;rw[xT h,cU];simp
def zML {i:Nat} (h:j<T.length) (hi:i≠zp (eA T j).key):uq T (j+1) i=uq T j i:=by
 unfold uq sr;rw[xT h,cU];simp[aQ hi]
def zJJ (h:j<T.length):uq T (j+1)=fun i=>if i=zp (eA T j).key then uq T j (zp (eA T j).key)++[eA T j] else uq T j i:=funext fun i=>by
 by_cases e:i=zp (eA T j).key
 ·rw[ah e,e,zJZ h]
 rw[ai e,zML h e]
def zK2 (T:List It) (j i:Nat):(uq T j i).length<=j:=by
 unfold uq;exact ak (zLl _ _) (by rw[aB];omega)
def zH8 (T:List It):uq T 0=fun _=>[]:=funext fun _=>rfl
def zLb (T:List It):uq T T.length=fun i=>sr i T:=funext fun i=>by unfold uq;rw[bQ]
def zBT (x:It) (w:World):Calls prog 127 #[.agg #[.int .u64 x.key,.int .u32 x.ck,.int .i64 x.off,.int .i64 x.size]] w fun e w'=>e=.returned (.bool (okB x))/\Below w.heap.size w w':=ZO x.key x.ck x.off x.size w
def zCO (v:Value) (l:List It) (g:Int) (w:World) (h:lg w v l) (hs:l.length<=80000) :
  Calls prog 125 #[v,.int .i64 g] w fun e w'=>(∃ s',e=.returned (yD s' (tv l g).live (tv l g).ew)/\fA w' w.heap.size s' (tv l g).st)/\Below w.heap.size w w':=by
 have Hr:=zh h;have Fh:=zh (fun v W h=>qp v l W h (ak hs (by decide)));have sw:=zh (fun (ho:l.all okB=true) v W h=>Xm v (gu l) W h (fun x hx=>(ZS (zLs ho) x hx).2.2.2.1) (ak (xB l) (ak hs (by decide))));have eO:=zh (eZ.new w Sl.nil 0 0 111);have eP:=zh (zY w Sl.nil 0 0 111);have lh:=zh (fun h=>zLO (l:=l) (g:=g) h);have l5:=zh (fun h h0 h1=>VE (l:=l) (g:=g) h h0 h1);have HAt:Hid ((∀ j,j<l.length->_)->_):=zh (RK (l:=l) (p:=okB));have HAf:Hid (∀ j,j<l.length->_->_):=zh (fun j=>qd (l:=l) (p:=okB) (j:=j));have hl:=xB l;have hsb:=qY (gu l);have Ld:zz (gu l)<=80000*4127:=ak hsb (aX _ (ak hl hs));clear h hsb;generalize tv l g=FM at *;generalize l.all okB=ob at *;generalize gu l=T at *;obtain ⟨a,cap,rfl,h1,h2⟩:=Hr.o.shape;generalize hn:l.length=n at *;clear hn
 go_enter func125,ntmps125
 go_upto_region 1 with fail;obtain ⟨W0,hW0⟩:∃ W0,w.alloc (.cells (yl Sl.nil 0 0) 111)=W0:=⟨_,rfl⟩
 rw[hW0] at eO eP;rw[show w.alloc (.cells #[.slice none 0 0,.slice none 0 0,.slice none 0 0,.slice none 0 0,.slice none 0 0,.slice none 0 0,.slice none 0 0,.slice none 0 0,.int .i64 0,.int .i64 0] 111)=W0 from hW0];clear hW0;go_wp2_with fail
 go_loopw [5] (fun iv W=>∃ i:Nat,iv=.int .i64 (i:Int)/\i<=n/\Hid (∀ r,r<i->okB (eA l r)=true)/\Hid (Below W0.heap.size W0 W)) (fun iv _=>n-(intOf iv).toNat)
 case atStart=>exact ⟨0,rfl,aq _,zh (fun r hr=>by omega),zh (aj _ _)⟩
 obtain ⟨i,rfl,hi,nr,HB⟩:=hrel
 by_cases hin:i<n
 ·have ii1:(i:Int)<(n:Int):=by omega
  obtain ⟨pb,F5,e,k0,k1,k2,k3⟩:=(Hr.o.bb (zA eP.o HB.o)).at hin;subst e;have Wi:=zh (HAf.o i hin)
  have AQ:=zh (fun (hx:okB (eA l i)=true) r (hr:r<i+1)=>show okB (eA l r)=true from by
   by_cases e:r=i
   ·rw[e];exact hx
   exact nr.o r (by omega))
  generalize eA l i=x at *;have HV:=zh (fun W=>zBT x W)
  cases hx:okB x
  ·rw[hx] at HV;have HF:=zh (lh.o (fun h=>by rw[Wi.o hx] at h;cases h.1));clear hx Wi AQ lh l5;go_wp2_with fail;refine (HV.o _).mono ?_;rintro e w1 ⟨rfl,hb1⟩;have D3:=zh (eO.o.bb (zA HB.o hb1));have eN:=zh (zA eP.o (zA HB.o hb1));clear hb1 k0 k1 k2 k3;obtain ⟨c0,c1,c2,c3,c4,c5,c6,c7,c8,c9⟩:=D3.o.q;have cF:=D3.o.f;go_wp2_with fail;change bodyPost _ _ _ _ _ (yN w1 w.heap.size Sl.nil 0 0);have hby:=D3.o.all Sl.nil 0 0;have Dm:=zh (zj eN.o (ag _) Sl.nil 0 0);generalize yN w1 w.heap.size Sl.nil 0 0=V9 at *;exact au (v:=yD Sl.nil 0 0) (by simp[results,results125,go_sem,hby.q]) rfl ⟨⟨Sl.nil,by rw[HF.o];rfl,by rw[HF.o];exact fA.nil _ _⟩,Dm.o⟩
  rw[hx] at HV;have F6:=zh (AQ.o hx);clear hx Wi AQ;go_wp2_with fail;refine (HV.o _).mono ?_;rintro e w1 ⟨rfl,hb1⟩;have eN:=zh (zA HB.o hb1);clear hb1 k0 k1 k2 k3;go_wp2_with fail;exact ⟨⟨i+1,by go_num,by omega,F6,eN⟩,by simp[intOf];omega⟩
 have ii1:¬ (i:Int)<(n:Int):=by omega
 obtain rfl:i=n:=by omega
 have Ez:ob=true:=HAt.o nr.o;subst Ez;have lY:=zh (eO.o.bb HB.o);have eV:=zh (zA eP.o HB.o);clear HAt HAf nr eO eP HB
 by_cases hg:0<=g/\g<=1099511627776
 ·obtain ⟨hg0,hg1⟩:=hg;have g1:decide (g<0)=false:=by simp;omega
  have g2:decide (1099511627776<g)=false:=by simp;omega
  have HFM:=zh (l5.o rfl hg0 hg1);have Wj:=zh (sw.o rfl);clear lh l5 sw;have pq:=zh (Fh.o _ wr (Hr.o.bb eV.o));go_wp2_with fail;refine pq.o.mono ?_;rintro e w2 ⟨v2,rfl,eM,hb2⟩;have fK:=zh (lY.o.bb hb2);have eX:=zh (zA eV.o hb2);have iq:=zh (fR.rd eM);have Pd:=zh (Wj.o _ w2 (fR.rd eM));obtain ⟨ta,tc,rfl,ht1,ht2⟩:=iq.o.shape;clear eM hb2 lY eV pq;go_wp2_with fail;refine Pd.o.mono ?_;rintro e w3 ⟨rfl,hb3⟩;have i_:=zh (fK.o.bb hb3);have f_:=zh (zA eX.o hb3);have ng:=zh (iq.o.bb hb3);clear hb3 fK eX iq Pd;have HAs:=zh (fun j (h:j<T.length)=>zJJ h);have EG:=zh (fun j i=>zK2 T j i);have OV:=zh (zH8 T);have HAz:=zh (zLb T);generalize htn:T.length=tn at *;clear htn;generalize zz T=S at *;go_upto_region 10 with fail;obtain ⟨W4,SJ⟩:∃ W4,w3.alloc (.cells (yl Sl.nil (S:Int) g) 111)=W4:=⟨_,rfl⟩
  have AI:Hid (eZ W4 w3.heap.size Sl.nil (S:Int) g):=zh (SJ▸eZ.new w3 Sl.nil (S:Int) g 111);have gq:Hid (Below w3.heap.size w3 W4):=zh (SJ▸zY w3 Sl.nil (S:Int) g 111);have hm0:w.heap.size<w3.heap.size:=i_.o.lt;have hm1:w3.heap.size<W4.heap.size:=AI.o.lt;rw[show w3.alloc (.cells #[.slice none 0 0,.slice none 0 0,.slice none 0 0,.slice none 0 0,.slice none 0 0,.slice none 0 0,.slice none 0 0,.slice none 0 0,.int .i64 (S:Int),.int .i64 g] 111)=W4 from SJ];clear SJ;go_wp2_with fail
  go_loopw [7] (fun iv W=>∃ (j:Nat) (s:Sl),iv=.int .i64 (j:Int)/\j<=tn/\Hid (eZ W w3.heap.size s (S:Int) g)/\Hid (fA W W4.heap.size s (uq T j))/\Hid (Ky s)/\Hid (Below w3.heap.size w3 W)/\Hid (W4.heap.size<=W.heap.size)) (fun iv _=>tn-(intOf iv).toNat)
  case atStart=>exact ⟨0,Sl.nil,rfl,aq _,AI,zh (by rw[OV.o];exact fA.nil _ _),zh Ky.nil,gq,zh (ag _)⟩
  obtain ⟨j,s,rfl,hj,HY,HO,HA,HB,HL⟩:=hrel
  by_cases hjt:j<tn
  ·have jj1:(j:Int)<(tn:Int):=by omega
   obtain ⟨qb,aj7,e,q0,q1,q2,q3⟩:=(ng.o.bb HB.o).at hjt;subst e;have HAj:=zh (HAs.o j hjt);have mh:=wy (eA T j).key;have hal:=EG.o j (zp (eA T j).key);generalize eA T j=x at *;have jY:=zh (fun W=>WY x.key W);generalize zp x.key=k at *;go_wp2_with fail;refine (jY.o _).mono ?_;rintro e w8 ⟨rfl,rfl⟩;have ck:=HY.o.c k mh;rw[show s.v k=.slice (s.a k) (s.n k) (s.c k) from rfl] at ck;have Pe:Hid (wr.ownsRow W4.heap.size 49 4 (.slice (s.a k) (s.n k) (s.c k)) (uq T j k).length (zg (uq T j k))):=zh (HO.o k mh);have fS:Hid (Below wr.heap.size wr (wr.alloc (xX x)).drew):=zh (zV (yH wr x));have Wk:=zh (ak HL.o fS.o.size)
   have Pg:=zh (fun w9 va n vc (hown:World.ownsRow w9 W4.heap.size 49 4 (.slice va n vc) n (zg (uq T j k++[x]))) hg hat=>zLH (w:=(wr.alloc (xX x)).drew) (i_.o.bb (zA HB.o fS.o)) (HY.o.bb fS.o) (HO.o.keep fS.o) HA.o (T:=[]) (B2:=w3.heap.size+1) (aP _ _ _ _) (zA HB.o fS.o) (ag _) hm0 (dy _) (Nat.succ_le_of_lt hm1) Wk.o (fun g hg=>by cases hg) mh hown hg hat);have SK:=zh (fun W (hg:(wr.alloc (xX x)).drew.grownBy W (s.v k).ownBlock)=>((HY.o.bb fS.o).grown hg (tX (HO.o k mh) hm1)));have jO:Hid (∀ u∈jk x,u.oneCell'=true):=zh (by have:=zv [x];rwa [xj] at this);have HCu:=zh (show zg (uq T j k++[x])=zg (uq T j k)++jk x by rw[zy,xj]);have ik8:(k:Int)<8:=by omega
   have aj_:w3.heap.size<wr.heap.size:=HY.o.lt;go_wp2_with fail
   go_region_law ((refine kZ (by rfl) (.tmp 51) (.tmp 56) 33 (by rfl) yO W4.heap.size (by rfl) ((Pe.o.alloc _).drew) (ad:=⟨wr.heap.size,0,none⟩) (m:=1) (c:=1) (news:=jk x) (by rfl) (by rfl) (zJh wr x _ rfl) jO.o (by unfold maxLen;omega) (by omega) Wk.o ?_;intro v2 w9 eM fu rH;obtain ⟨jD,jE,hv2,_,_,_⟩:=zG eM;subst hv2;have Wl:=SK.o _ fu;have c2:=Wl.c k mh;have f2:=Wl.f k;rw[show s.v k=.slice (s.a k) (s.n k) (s.c k) from rfl] at c2))
   all_goals
    obtain ⟨r1,r2,r3,r4,r5,r6⟩:=Pg.o _ _ _ _ (by rw[HCu.o];exact eM) fu rH;have Ph:W4.heap.size<=w9.heap.size:=ak Wk.o fu.size;clear c2 f2 Wl eM fu rH ck Pg SK Pe r1 r5;have HR:Hid (_/\_/\_/\_):=zh (⟨r2,r3,r4,r6⟩);clear r2 r3 r4 r6;go_wp2_with fail;obtain ⟨r2,r3,r4,r6⟩:=HR.o;exact ⟨⟨j+1,s.set k jD ((uq T j k).length+1) jE,by go_num,by omega,zh r2,zh (by rw[HAj.o];exact r3),zh r4,zh r6,zh (by simpa using Ph)⟩,by simp[intOf];omega⟩
  have jj1:¬ (j:Int)<(tn:Int):=by omega
  obtain rfl:j=tn:=by omega
  have D3:=zh (i_.o.bb HB.o);have eN:=zh (zA f_.o HB.o);obtain ⟨d0,d1,d2,d3,d4,d5,d6,d7,d8,d9⟩:=HY.o.q;have dF:=HY.o.f;obtain ⟨c0,c1,c2,c3,c4,c5,c6,c7,c8,c9⟩:=D3.o.q;have cF:=D3.o.f;go_wp2_with fail;change bodyPost _ _ _ _ _ (yN wr w.heap.size s (S:Int) g);have hby:=D3.o.all s (S:Int) g;have oH:=zh ((HO.o.mO (b:=w.heap.size) (by omega) s (S:Int) g).mono (show w.heap.size<=W4.heap.size by omega));have Dm:=zh (zj eN.o (ag _) s (S:Int) g);generalize yN wr w.heap.size s (S:Int) g=V9 at *;exact au (v:=yD s (S:Int) g) (by simp[results,results125,go_sem,hby.q]) rfl ⟨⟨s,by rw[HFM.o],by rw[HFM.o];show fA _ _ _ (fun i=>sr i T);rw[<- HAz.o];exact oH.o⟩,Dm.o⟩
 have HF:=zh (lh.o (fun h=>hg h.2));have hcs:g<0∨(0<=g/\1099511627776<g):=by omega
 have D3:=lY;have eN:=eV;clear lh l5 hg;rcases hcs with h0|⟨h0,h1'⟩
 ·have g1:decide (g<0)=true:=by simp;omega
  obtain ⟨c0,c1,c2,c3,c4,c5,c6,c7,c8,c9⟩:=D3.o.q;have cF:=D3.o.f;go_wp2_with fail;change bodyPost _ _ _ _ _ (yN wr w.heap.size Sl.nil 0 0);have hby:=D3.o.all Sl.nil 0 0;have Dm:=zh (zj eN.o (ag _) Sl.nil 0 0);generalize yN wr w.heap.size Sl.nil 0 0=V9 at *;exact au (v:=yD Sl.nil 0 0) (by simp[results,results125,go_sem,hby.q]) rfl ⟨⟨Sl.nil,by rw[HF.o];rfl,by rw[HF.o];exact fA.nil _ _⟩,Dm.o⟩
 have g1:decide (g<0)=false:=by simp;omega
 have g2:decide (1099511627776<g)=true:=by simp;omega
 obtain ⟨c0,c1,c2,c3,c4,c5,c6,c7,c8,c9⟩:=D3.o.q;have cF:=D3.o.f;go_wp2_with fail;change bodyPost _ _ _ _ _ (yN wr w.heap.size Sl.nil 0 0);have hby:=D3.o.all Sl.nil 0 0;have Dm:=zh (zj eN.o (ag _) Sl.nil 0 0);generalize yN wr w.heap.size Sl.nil 0 0=V9 at *;exact au (v:=yD Sl.nil 0 0) (by simp[results,results125,go_sem,hby.q]) rfl ⟨⟨Sl.nil,by rw[HF.o];rfl,by rw[HF.o];exact fA.nil _ _⟩,Dm.o⟩
end Go.Proofs.YtcgfilmmokmdjaaGreat
