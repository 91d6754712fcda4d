import Derived.Test.YtcgfilmmokmdjaaGreatGv
import Derived.Test.YtcgfilmmokmdjaaGreatQAD
import Derived.Test.YtcgfilmmokmdjaaGreatVw
import Derived.Laws.Bits64
import Derived.Laws.Bits64b
import Derived.Test.YtcgfilmmokmdjaaGreatQAG
import Derived.Test.YtcgfilmmokmdjaaGreatQAC
import Derived.Test.YtcgfilmmokmdjaaGreatQAF
import Derived.RegionTactic
import Derived.Deep.RegionLaw
set_option linter.all false
set_option maxRecDepth 100000
set_option maxHeartbeats 32000000
namespace Go.Proofs.YtcgfilmmokmdjaaGreat
open Go.RowKit
def fresh (num:Int):Gn:=⟨num,0,1,16,fun _=>[],0,0⟩
theorem PK (w:World):fG w Sl.nil (fun _=>[]):=fun _ _=>iN.nil 4 iC w
theorem k8 (num:Int):xC (fresh num).m=true:=by
 rw[zV];exact ⟨fun _ _=>rfl,fun _ _ x hx=>(by cases hx),rfl,cD _,by show (0:Int)≤1099511627776;decide⟩
theorem kw (num:Int):lh (fresh num)↔1≤num∧num≤8:=by
 constructor
 ·
  intro h;exact h.num
 intro h;refine ⟨h,⟨cD _,by show (0:Int)≤_;decide⟩,?_,?_,k8 num,rfl,rfl⟩
 ·
  show (1:Int)≤1∧(1:Int)≤3;decide
 show (16:Int)≤16∧(16:Int)≤1048576∧(16:Int)%8=0;decide
theorem zHe (num:Int) (hn:1≤num∧num≤8) (w:World):Calls Tryz.prog 60 #[.int .i64 num] w fun e w'=>e=.returned (.tuple #[zd num 0 1 16 Sl.nil 0 0,.int .i64 0])∧Below w.heap.size w w':=by
 have HV:=zh (fun W=>vu (fresh num) Sl.nil W (PK W) (fun _ _=>aq _));rw[(yJ _).2 ((kw num).2 hn)] at HV;dsimp only[fresh] at HV;have HN:=zh (fun W=>zKP W);have HB:=zh (zZ w 0 0 0 0 Sl.nil 0 0 38);have HR:=zh (eO.new w 0 0 0 0 Sl.nil 0 0 38);clear hn;generalize hnil:Sl.nil=s0 at *;have EA:=zh hnil;clear hnil
 go_enter Tryz.func60,Tryz.ntmps60
 go_wp2_with fail;refine (HN.out _).mono ?_;rintro e w1 ⟨rfl,hb1⟩;obtain ⟨W0,hW0⟩:∃ W0,w.alloc (.cells (zX 0 0 0 0 s0 0 0) 38)=W0:=⟨_,rfl⟩
 have nA:Below (w.alloc (.cells (zX 0 0 0 0 s0 0 0) 38)).heap.size (w.alloc (.cells (zX 0 0 0 0 s0 0 0) 38)) w1:=by
  rw[← EA.out];exact hb1
 rw[hW0] at nA HB HR;have eP:=zh (zA HB.out nA);have fq:=zh (HR.out.below nA);clear hb1 nA HB HR hW0;have JC:=fq.out.lt;generalize hb0:w.heap.size=b0 at *;have E0:=zh hb0;clear hb0;go_upto_region 2 with fail;obtain ⟨W,hW⟩:∃ W,w1.alloc (.cells (zX num 0 1 16 s0 0 0) 38)=W:=⟨_,rfl⟩
 have HX:=zh (eO.new w1 num 0 1 16 s0 0 0 38);have eB:=zh (zZ w1 num 0 1 16 s0 0 0 38);change Code.wp _ _ _ _ (w1.alloc (.cells (zX num 0 1 16 s0 0 0) 38));rw[hW] at HX eB ⊢;clear hW;have gN:=zh (fq.out.below eB.out);have eM:=zh (jo eP.out (bU JC) eB.out);have JB:=HX.out.lt;obtain ⟨m0,m1,m2,m3,m4,m5,m6,m7,m8,m9,m10,m11,m12,m13⟩:=HX.out.q;go_wp2_with fail;refine (HV.out _).mono ?_;rintro e w2 ⟨rfl,hb2⟩;clear m0 m1 m2 m3 m4 m5 m6 m7 m8 m9 m10 m11 m12 m13;have iw:=zh (HX.out.below hb2);have nh:=zh (gN.out.below hb2);have gy:=zh (jo eM.out (bU gN.out.lt) hb2);have afv:=nh.out.lt;have afw:=iw.out.lt;have hne:b0≠w1.heap.size:=by omega
 clear hb2 HX gN eM HV HN fq eP eB JB;generalize w1.heap.size=b1 at *;obtain ⟨m0,m1,m2,m3,m4,m5,m6,m7,m8,m9,m10,m11,m12,m13⟩:=iw.out.q;obtain ⟨d0,d1,d2,d3,d4,d5,d6,d7,d8,d9,d10,d11,d12,d13⟩:=nh.out.q;have F:=nh.out.f;go_wp2_with fail;change bodyPost _ _ _ _ _ (pts w2 b0 (zQ num 0 1 16 s0 0 0));have hby:=nh.out.all num 0 1 16 s0 0 0;have eD:=zh (zD (B:=b0) (ag _) (zQ num 0 1 16 s0 0 0) gy.out);generalize pts w2 b0 (zQ num 0 1 16 s0 0 0)=V at *;exact au (v:=.tuple #[zd num 0 1 16 s0 0 0,.int .i64 0]) (by simp[results,Tryz.results60,go_sem,hby.q]) rfl ⟨rfl,by rw[E0.out];exact eD.out⟩
theorem xD (i l:Int) (r:Bool) (a:Option Addr) (n c:Nat) (L:List GP) (w:World) (h:fD w (.slice a n c) L) (hs:∀ p∈L,∀ j,j<8→(p.1.m.st j).length≤10000) :
  Calls Tryz.prog 47 #[zO i l r a n c] w fun e w'=>e=.returned (.bool (zY ⟨i,l,r,ep L⟩))∧Below w.heap.size w w':=by
 have fO:L.length=n:=by
  obtain ⟨_,_,e,_⟩:=h.shape;injection e with _ e _;exact e.symm
 by_cases hA:0≤i∧i<4∧4136≤l∧l≤262144
 ·
  by_cases hn:1≤n∧n≤8
  ·
   exact zFN i l r a n c L w hA hn h hs
  have hf:zY ⟨i,l,r,ep L⟩=false:=qN fun hv=>hn (by have:=hv.len;rw[zn,fO] at this;exact this)
  rw[hf];exact zFP i l r a n c w hA (by omega)
 have hf:zY ⟨i,l,r,ep L⟩=false:=qN fun hv=>hA ⟨hv.id.1,hv.id.2,hv.lim.1,hv.lim.2⟩
 rw[hf];exact zE9 i l r a n c w hA
def xk (key:Int):Int:=bits .xor .u64 (bits .and .u64 key 4294967295) (key/4294967296)
def De:List GP:=[(fresh 1,Sl.nil)]
theorem PL (i l:Int) (r:Bool) (hA:0≤i∧i<4∧4136≤l∧l≤262144):zY ⟨i,l,r,ep De⟩=true:=by
 rw[zW];have hl:(ep De).length=1:=rfl;have hg:eV (ep De) 0=fresh 1:=rfl;refine ⟨⟨hA.1,hA.2.1⟩,hA.2.2,⟨ag _,by show (1:Nat)≤8;decide⟩,fun k hk=>?_,?_⟩
 ·
  have h0:k=0:=by
   have:k<1:=hk;omega
  subst h0;refine ⟨by show wN (fresh 1)=true;rw[yJ];exact (kw 1).2 (by decide),fun h=>absurd h (by decide),⟨fun _=>rfl,fun _=>rfl⟩,?_⟩
  show (16:Int)≤2*l
  omega
 show (fresh 1).size+(((zJ (fresh 1).m).length*24:Nat):Int)≤2*l
 have hit:zJ (fresh 1).m=[]:=by
  unfold zJ;rw[ah (k8 1)]
  rfl
 rw[hit]
 show (16:Int)+0≤2*l
 omega
theorem PN {w:World} {b:Nat} (h:oI w b 0 (fresh 1,Sl.nil)):fD w (.slice (some ⟨b,0,none⟩) 1 1) De:=by
 refine ⟨⟨fun x _=>uA x,?_⟩,fun p hp=>?_⟩
 ·
  refine ⟨rfl,some ⟨b,0,none⟩,1,rfl,ag _,by unfold maxLen;decide,fun h=>(by cases h),fun _=>⟨b,0,rfl,fun j u hj=>?_⟩⟩;have hj':(iL (fresh 1,Sl.nil))[j]?=some u:=by simpa [De] using hj
  have hlt:j<14:=(List.getElem?_eq_some_iff.1 hj').1;rw[aI];rcases (show j=0∨j=1∨j=2∨j=3∨j=4∨j=5∨j=6∨j=7∨j=8∨j=9∨j=10∨j=11∨j=12∨j=13 by omega) with e|e|e|e|e|e|e|e|e|e|e|e|e|e<;>subst e<;>injection hj' with hj'<;>subst hj'
  ·
   exact h.n0
  ·
   exact h.n1
  ·
   exact h.n2
  ·
   exact h.n3
  ·
   exact h.c0
  ·
   exact h.c1
  ·
   exact h.c2
  ·
   exact h.c3
  ·
   exact h.c4
  ·
   exact h.c5
  ·
   exact h.c6
  ·
   exact h.c7
  ·
   exact h.cl
  exact h.cg
 have:p=(fresh 1,Sl.nil):=by simpa [De] using hp
 subst this;exact PK w
theorem zIv (i l:Int) (hA:0≤i∧i<4∧4136≤l∧l≤262144) (w:World):Calls Tryz.prog 63 #[.int .i64 i,.int .i64 l] w fun e w'=>∃ b,e=.returned (.tuple #[zO i l false (some ⟨b,0,none⟩) 1 1,.int .i64 0])∧w.heap.size≤b∧oI w' b 0 (fresh 1,Sl.nil)∧Below w.heap.size w w':=by
 have HF:=zh (fun W=>zHe 1 (by decide) W)
 have HV:=zh (fun b W (h:oI W b 0 (fresh 1,Sl.nil))=>xD i l false (some ⟨b,0,none⟩) 1 1 De W (PN h) (fun p hp j _=>by
  have:p=(fresh 1,Sl.nil):=by simpa [De] using hp
  subst this
  exact aq _))
 rw[PL i l false hA] at HV;have HB:=zh (zM w 0 0 false none 0 0 27);have HR:=zh (eW.new w 0 0 false none 0 0 27);clear hA
 go_enter Tryz.func63,Tryz.ntmps63
 go_wp2_with fail;refine (HF.out _).mono ?_;rintro e w1 ⟨rfl,hb1⟩;obtain ⟨W0,hW0⟩:∃ W0,w.alloc (.cells (zK 0 0 false none 0 0) 27)=W0:=⟨_,rfl⟩
 have nA:Below (w.alloc (.cells (zK 0 0 false none 0 0) 27)).heap.size (w.alloc (.cells (zK 0 0 false none 0 0) 27)) w1:=hb1;rw[hW0] at nA HB HR;have eP:=zh (zA HB.out nA);have fq:=zh (HR.out.below nA);clear hb1 nA HB HR hW0 HF;have JC:=fq.out.lt;generalize hb0:w.heap.size=b0 at *;have E0:=zh hb0;clear hb0;generalize hnil:Sl.nil=s0 at *;have EA:=zh hnil;clear hnil;go_upto_region 2 with fail;obtain ⟨W,hW⟩:∃ W,w1.alloc (.cells (zX 1 0 1 16 s0 0 0) 38)=W:=⟨_,rfl⟩
 have HX:=zh (eO.new w1 1 0 1 16 s0 0 0 38);have eB:=zh (zZ w1 1 0 1 16 s0 0 0 38);change Code.wp _ _ _ _ (w1.alloc (.cells (zX 1 0 1 16 s0 0 0) 38));rw[hW] at HX eB ⊢;clear hW;have gN:=zh (fq.out.below eB.out);have eM:=zh (jo eP.out (bU JC) eB.out);have JB:=HX.out.lt;obtain ⟨m0,m1,m2,m3,m4,m5,m6,m7,m8,m9,m10,m11,m12,m13⟩:=HX.out.q;go_upto_region 3 with fail;change Code.wp _ _ _ _ ((W.alloc (.cells (zX 1 0 1 16 s0 0 0) 38)).alloc (.cells (zK i l false (some ⟨W.heap.size,0,none⟩) 1 1) 27));obtain ⟨W2,hW2⟩:∃ W2,W.alloc (.cells (zX 1 0 1 16 s0 0 0) 38)=W2:=⟨_,rfl⟩
 have hz2:W2.heap.size=W.heap.size+1:=by rw[← hW2];simp
 have j_:=zh (show oI W2 W.heap.size 0 (fresh 1,s0) from hW2▸oI.Ey (g:=fresh 1) (eO.new W 1 0 1 16 s0 0 0 38));have mj:=zh (show Below W.heap.size W W2 from hW2▸zZ W 1 0 1 16 s0 0 0 38);rw[hW2];clear hW2;obtain ⟨W3,hW3⟩:∃ W3,W2.alloc (.cells (zK i l false (some ⟨W.heap.size,0,none⟩) 1 1) 27)=W3:=⟨_,rfl⟩
 have Ar:=zh (show eW W3 (W.heap.size+1) i l false (some ⟨W.heap.size,0,none⟩) 1 1 from hz2▸hW3▸eW.new W2 i l false (some ⟨W.heap.size,0,none⟩) 1 1 27);have nL:=zh (show Below W2.heap.size W2 W3 from hW3▸zM W2 i l false (some ⟨W.heap.size,0,none⟩) 1 1 27);rw[hW3];clear hW3;have JD:=zh (j_.out.below nL.out);have hab:=zA mj.out nL.out;have nh:=zh (gN.out.below hab);have gy:=zh (jo eM.out (bU gN.out.lt) hab);have hl3:=Ar.out.lt;have hbW:b0<W.heap.size:=gN.out.lt;clear m0 m1 m2 m3 m4 m5 m6 m7 m8 m9 m10 m11 m12 m13 HX eB gN eM j_ mj nL hab fq eP JB JC;obtain ⟨x0,x1,x2,x3⟩:=Ar.out.q;generalize hgb:W.heap.size=gb at *;clear hgb;go_wp2_with fail;refine (HV.out _ _ JD.out).mono ?_;rintro e w4 ⟨rfl,hb4⟩;have DX:=zh (JD.out.below hb4);have mN:=zh (nh.out.below hb4);have oQ:=zh (Ar.out.below hb4);have gD:=zh (jo gy.out (bU nh.out.lt) hb4)
 have hl4:=oQ.out.lt;have S6:=mN.out.lt;clear x0 x1 x2 x3 hb4 JD nh Ar gy HV hl3;obtain ⟨x0,x1,x2,x3⟩:=oQ.out.q;obtain ⟨d0,d1,d2,d3⟩:=mN.out.q;have F:=mN.out.f;have hne:b0≠gb+1:=by omega
 go_wp2_with fail;change bodyPost _ _ _ _ _ (pts w4 b0 (zR i l false (some ⟨gb,0,none⟩) 1 1));have hby:=mN.out.all i l false (some ⟨gb,0,none⟩) 1 1;have eD:=zh (zD (B:=b0) (ag _) (zR i l false (some ⟨gb,0,none⟩) 1 1) gD.out);have MF:=zh (DX.out.eE (show gb≠b0 by omega) (zR i l false (some ⟨gb,0,none⟩) 1 1));generalize pts w4 b0 (zR i l false (some ⟨gb,0,none⟩) 1 1)=V at *;exact au (v:=.tuple #[zO i l false (some ⟨gb,0,none⟩) 1 1,.int .i64 0]) (by simp[results,Tryz.results63,go_sem,hby.c0,hby.c1,hby.c2,hby.c3]) rfl ⟨gb,rfl,by rw[E0.out];omega,by rw[EA.out];exact MF.out,by rw[E0.out];exact eD.out⟩
theorem zHC (i l:Int) (r:Bool) (a:Option Addr) (n c:Nat) (L:List GP) (w:World) (h:fD w (.slice a n c) L) (hs:∀ p∈L,∀ j,j<8→(p.1.m.st j).length≤10000) (hv:zY ⟨i,l,r,ep L⟩=true) (m:Nat) (hm:m≤4096) :
  Calls Tryz.prog 36 #[zO i l r a n c,.int .i64 (m:Int)] w fun e w'=>e=.returned (.bool (decide ((pat L (n-1)).1.size+((eN m:Nat):Int)≤l)))∧Below w.heap.size w w':=by
 have hV:=(zW _).1 hv;have fO:L.length=n:=by
  obtain ⟨_,_,e,_⟩:=h.shape;injection e with _ e _;exact e.symm
 have hl:(ep L).length=n:=by rw[zn,fO]
 have hn:1≤n∧n≤8:=by have:=hV.len;simp only[hl] at this;exact this
 obtain ⟨j,rfl⟩:∃ j,n=j+1:=⟨n-1,by omega⟩
 have hg:=hV.vg (i:=j) (by show j<(ep L).length;omega);simp only[yv] at hg;have hz1:=hg.size.1;have hz2:=hg.size.2.1;have fQ:=zh (fun W (hb:Below w.heap.size w W)=>xD i l r a (j+1) c L W (h.below hb) hs);rw[hv] at fQ;have HZ:=zh (fun W=>(LS m W).mono (R':=fun e w'=>e=.returned (.int .i64 ((eN m:Nat):Int))∧Below W.heap.size W w') fun _ _ ⟨he,hw⟩=>⟨he,hw▸aj _ _⟩);have S7:eN m≤4127:=xj m;have DW:j+1-1=j:=by omega
 rw[DW];have HR:=zh h;have eB:=zh (eW.new w i l r a (j+1) c 27);have eH:=zh (zM w i l r a (j+1) c 27);have e1:decide ((m:Int)<0)=false:=by simp
 have e2:decide ((4096:Int)<(m:Int))=false:=by simp;omega
 clear hV fO hl hg hv h hs DW;generalize eN m=z at *;obtain ⟨b,off,rfl,hg⟩:=HR.out.at (show j<j+1 by omega);have HG:=zh hg;clear hg HR;generalize pat L j=p at *;obtain ⟨⟨num,rev,md,sz,f,LV,GA⟩,s⟩:=p;dsimp only at *
 go_enter Tryz.func36,Tryz.ntmps36
 go_upto_region 1 with fail;obtain ⟨W,hW⟩:∃ W,w.alloc (.cells (zK i l r (some ⟨b,off,none⟩) (j+1) c) 27)=W:=⟨_,rfl⟩
 change Code.wp _ _ _ _ (w.alloc (.cells (zK i l r (some ⟨b,off,none⟩) (j+1) c) 27));rw[hW] at eB eH ⊢;clear hW;have nW:=eB.out.lt;obtain ⟨k0,k1,k2,k3⟩:=eB.out.q;go_wp2_with fail;refine (fQ.out _ eH.out).mono ?_;rintro e w1 ⟨rfl,hb1⟩;clear k0 k1 k2 k3;have eP:=zh (zA eH.out hb1);have fh:=zh (eB.out.below hb1);have sB:=zh (HG.out.below eP.out);have sV:=fh.out.lt;clear hb1 eH eB HG fQ;have j3:IntKind.i64.wrap (j:Int)=(j:Int):=aF _ (by omega);have i2:(j:Int)<((j+1:Nat):Int):=by omega
 have j5:IntKind.i64.wrap (sz+(z:Int))=sz+(z:Int):=aF _ (by omega);go_wp2_with fail;have v1:=zB fh.out.c1;have v3:=zB fh.out.c3;have g3:=zB sB.out.n3;dsimp only at g3;refine zC (by kernel_rfl) (by kernel_rfl) ?_
 repeat (go_big_quiet_step ((exact zE (HZ.out _))))
 refine aA ?_;intro _ hw';obtain ⟨q,hw'⟩:=hw';subst hw';have HQ:=zh (zA eP.out q.h);clear v1 v3 g3;go_wp2_with fail;go_ret;exact ⟨rfl,HQ.out⟩
end Go.Proofs.YtcgfilmmokmdjaaGreat
namespace Go.Proofs.YtcgfilmmokmdjaaGreat
def xh:eX:=⟨0,0,false,[]⟩
def ze (s:eX):Gn:=eV s.dY (s.dY.length-1)
noncomputable def wn (s:eX):Int×Gn:=if zY s=true then (0,ze s) else (1,ix)
noncomputable def vO (s:eX):Bool:=zY s&&decide ((ze s).num<8)
noncomputable def yY (s:eX) (n:Int):Bool:=zY s&&(decide (0≤n)&&decide (n≤4096))&&decide ((ze s).size+(eN n.toNat:Nat)≤s.lim)
def vw (l:List Gn) (key:Int):Nat→List Int
 |0=>[]
 |n+1=>vw l key n++(match zg (eV l n).m key with|some _=>[(eV l n).num]|none=>[])
noncomputable def zS (s:eX) (key:Int):List Int:=if zY s=true then vw s.dY key (s.dY.length-1) else []
theorem S8 (l:List Gn) (key:Int):∀ n m,m≤n→((xU l key n).reverse.filter fun x=>decide (x.at_<m)).map (·.gen)=vw l key m
 |0,m,h=>by
  obtain rfl:m=0:=by omega
  rfl
 |n+1,m,h=>by
  unfold xU;rw[List.reverse_append,cU,bD]
  by_cases hm:m≤n
  ·
   rw[S8 l key n m hm]
   cases hg:zg (eV l n).m key with
   |none=>simp
   |some x=>simp[show ¬ n<m by omega]
  obtain rfl:m=n+1:=by omega
  have hr:=S8 l key n n (ag _);have hall:∀ k,∀ x∈xU l key k,x.at_<k:=by
   intro k
   induction k with
   |zero=>intro x hx;cases hx
   |succ k ih =>
    intro x hx;unfold xU at hx;rcases List.mem_append.1 hx with hx|hx
    ·
     cases hg:zg (eV l k).m key with
     |none=>rw[hg] at hx;cases hx
     |some y=>rw[hg] at hx;obtain rfl:=List.mem_singleton.1 hx;exact dD k
    exact Nat.lt_succ_of_lt (ih x hx)
  have e1:((xU l key n).reverse.filter fun x=>decide (x.at_<n+1))=(xU l key n).reverse.filter fun x=>decide (x.at_<n):=by
   refine List.filter_congr fun x hx=>?_
   have:=hall n x (List.mem_reverse.1 hx);simp[this,Nat.lt_succ_of_lt this]
  rw[e1,hr]
  show _=vw l key n++_
  cases hg:zg (eV l n).m key with
  |none=>simp
  |some x=>simp
noncomputable def zMq (i l:Int):eX×Int:=if zY ⟨i,l,false,[fresh 1]⟩=true then (⟨i,l,false,[fresh 1]⟩,0) else (xh,1)
noncomputable def vV (s:eX):eX×Int:=
 if zY s=true then (if (ze s).num<8 then (⟨s.id,s.lim,s.ro,s.dY.take (s.dY.length-1)++[{ze s with mode:=2},fresh ((ze s).num+1)]⟩,0) else (xh,9)) else (xh,1)
def tH (l:List Gn) (g:Gn):List Gn:=l.map fun x=>if x.num=g.num then g else x
noncomputable def yV (s:eX) (g:Gn):eX×Int:=
 if zY s=true then (if (s.dY.any fun x=>decide (x.num=g.num))=true then (if zY ⟨s.id,s.lim,s.ro,tH s.dY g⟩=true then (⟨s.id,s.lim,s.ro,tH s.dY g⟩,0) else (xh,1)) else (xh,6)) else (xh,1)
end Go.Proofs.YtcgfilmmokmdjaaGreat
namespace Go.Proofs.YtcgfilmmokmdjaaGreat
open Go.RowKit
def Cx (g:Gn) (x:Nd):It:=⟨(x.key:Int),(x.ck:Int),g.size,(x.data.length:Int)⟩
def yS (g:Gn) (x:Nd):Gn:={g with m:=if x.del then xF (yP g.m x.key) (eN x.data.length:Nat) else wV g.m (Cx g x),size:=g.size+(eN x.data.length:Nat)}
def zj (g:Gn) (l:List Nd):Gn:=l.foldl yS g
def iR (l:List Nd):Nat:=(l.map fun x=>eN x.data.length).sum
instance (x:Nd):Decidable x.ok:=by unfold Nd.ok;infer_instance
def DY (l:List Nd):Bool:=l.all fun x=>decide x.ok
def xE (g:Gn) (l:List Nd):Int×Gn:=if wN g=true∧DY l=true then (if g.mode=1 then (if g.size+(iR l:Int)≤1048576 then (0,zj g l) else (9,ix)) else (12,ix)) else (1,ix)
def xA (g:Gn) (l:List Int):Int×Gn:=if wN g=true then (if g.mode=1 then (12,ix) else (0,{g with m:=l.foldl yP g.m})) else (1,ix)
def xx (g:Gn) (fF:Int):Int×Gn:=if wN g=true then (if g.mode=fF then (0,{g with mode:=fF+1}) else (12,ix)) else (1,ix)
def KZ (w0:World) (p:Int×Gn) (e:Ending) (w':World):Prop:=(∃ s,e=.returned (.tuple #[zd p.2.num p.2.rev p.2.mode p.2.size s p.2.m.live p.2.m.d_,.int .i64 p.1])∧eZ w' w0.heap.size s p.2.m.st)∧Below w0.heap.size w0 w'
theorem uB (M:Mp):xF M 0=M:=by
 unfold xF
 split
 ·
  rw[Int.add_zero]
 rfl
theorem Yt:iR []=0:=rfl
theorem vG (x:Nd) (l:List Nd):iR (x::l)=eN x.data.length+iR l:=by simp[iR]
theorem Yu (g:Gn) (l:List Nd) (x:Nd):zj g (l++[x])=yS (zj g l) x:=by simp[zj]
theorem kX (l:List Nd) (x:Nd):iR (l++[x])=iR l+eN x.data.length:=by simp[iR]
theorem uL (g:Gn) (x:Nd):(yS g x).size=g.size+(eN x.data.length:Nat):=rfl
theorem vI (g:Gn):∀ l,(zj g l).size=g.size+(iR l:Nat)
 |[]=>by simp[zj,iR]
 |x::r=>by
  have:=vI (yS g x) r;rw[uL] at this
  show (zj (yS g x) r).size=_
  rw[this,vG];omega
theorem Yv (g:Gn) (x:Nd):(yS g x).num=g.num∧(yS g x).rev=g.rev∧(yS g x).mode=g.mode:=⟨rfl,rfl,rfl⟩
theorem qi:∀ (l:List Nd) (g:Gn),(zj g l).num=g.num∧(zj g l).rev=g.rev∧(zj g l).mode=g.mode
 |[],_=>⟨rfl,rfl,rfl⟩
 |x::r,g=>by
  have:=qi r (yS g x);exact this
theorem zHd (M:Mp) (x:It) {n:Nat} (h:∀ i,i<8→(M.st i).length≤n):∀ i,i<8→((wV M x).st i).length≤n+1:=fun i hi=>by
 unfold wV
 split
 ·
  show (if i=zl x.key then ins (M.st i) x else M.st i).length≤n+1
  have h1:=vm x (M.st i);have h2:=h i hi
  split<;>omega
 have h2:=h i hi;omega
theorem qF (M:Mp) (k:Int) {n:Nat} (h:∀ i,i<8→(M.st i).length≤n):∀ i,i<8→((yP M k).st i).length≤n:=fun i hi=>by
 unfold yP
 split
 ·
  exact h i hi
 split
 ·
  show (if i=zl k then gP (M.st i) k else M.st i).length≤n
  have h1:=uh (M.st i) k;have h2:=h i hi
  split<;>omega
 exact h i hi
theorem uU (M:Mp) (z:Int):(xF M z).st=M.st:=by unfold xF;split<;>rfl
theorem zE1 (g:Gn) (x:Nd) {n:Nat} (h:∀ i,i<8→(g.m.st i).length≤n):∀ i,i<8→((yS g x).m.st i).length≤n+1:=fun i hi=>by
 unfold yS;dsimp only
 split
 ·
  rw[uU];exact Nat.le_succ_of_le (qF _ _ h i hi)
 exact zHd _ _ h i hi
theorem wT:∀ (l:List Nd) (g:Gn) {n:Nat},(∀ i,i<8→(g.m.st i).length≤n)→∀ i,i<8→((zj g l).m.st i).length≤n+l.length
 |[],_,_,h=>h
 |x::r,g,n,h=>fun i hi=>by
  have:=wT r (yS g x) (zE1 g x h) i hi;rw[aV];exact ak this (by omega)
theorem wQ:∀ (l:List Int) (M:Mp) {n:Nat},(∀ i,i<8→(M.st i).length≤n)→∀ i,i<8→((l.foldl yP M).st i).length≤n
 |[],_,_,h=>h
 |x::r,M,_,h=>wQ r (yP M x) (qF M x h)
theorem wv (w:World) (n r md z:Int) (s:Sl) (l g:Int) (t:TypeId):∃ W,(w.alloc (.cells (zX n r md z s l g) t)).alloc (.cells (zX 0 0 0 0 Sl.nil 0 0) t)=W∧eO W w.heap.size n r md z s l g∧eO W (w.heap.size+1) 0 0 0 0 Sl.nil 0 0∧Below w.heap.size w W:=by
 refine ⟨_,rfl,(eO.new w n r md z s l g t).below (zZ _ 0 0 0 0 Sl.nil 0 0 t),?_,zA (zZ w n r md z s l g t) (zZ _ 0 0 0 0 Sl.nil 0 0 t)⟩;have:=eO.new (w.alloc (.cells (zX n r md z s l g) t)) 0 0 0 0 Sl.nil 0 0 t
 rwa [cO] at this
theorem zJs (g:Gn) (s:Sl) (fF:Int) (w:World) (h:fG w s g.m.st) (hs:∀ i,i<8→(g.m.st i).length≤10000) :
  Calls Tryz.prog 104 #[zd g.num g.rev g.mode g.size s g.m.live g.m.d_,.int .i64 fF] w (KZ w (xx g fF)):=by
 have HV:=zh (fun W (hb:Below w.heap.size w W)=>vu g s W (h.below hb) hs);have HW:=zh (fun W (hb:Below w.heap.size w W)=>vp s g.m 0 W (h.below hb) hs);rw[uB] at HW;have jf:=zh (show ∀ W,eZ W w.heap.size Sl.nil ix.m.st from fun W=>eZ.nil W _);have HG:=zh (show xx g fF=if wN g=true then (if g.mode=fF then (0,{g with mode:=fF+1}) else (12,ix)) else (1,ix) from rfl);have DS:=zh (show wN g=true→1≤g.mode∧g.mode≤3 from fun hv=>((yJ g).1 hv).mode);generalize wN g=vb at *;obtain ⟨n,r,md,z,⟨f,L,G⟩⟩:=g;dsimp only at *;generalize xx ⟨n,r,md,z,⟨f,L,G⟩⟩ fF=TG at *;obtain ⟨W,hW,fM,hbr,fU⟩:=wv w n r md z s L G 38;have HX:=zh fM;have HR:=zh hbr;have HB:=zh fU;clear fM hbr fU h hs
 go_enter Tryz.func104,Tryz.ntmps104
 go_upto_region 1 with fail;change Code.wp _ _ _ _ ((w.alloc (.cells (zX n r md z s L G) 38)).alloc (.cells (zX 0 0 0 0 Sl.nil 0 0) 38));rw[hW];clear hW;obtain ⟨x0,x1,x2,x3,x4,x5,x6,x7,x8,x9,gq,gu,gj,gl⟩:=HX.out.q;go_wp2_with fail;refine (HV.out _ HB.out).mono ?_;rintro e w1 ⟨rfl,hb1⟩;have fh:=zh (HX.out.below hb1);have fq:=zh (HR.out.below hb1);have eP:=zh (zA HB.out hb1);clear x0 x1 x2 x3 x4 x5 x6 x7 x8 x9 gq gu gj gl;clear hb1 HX HR HB HV;have hlr:=fq.out.lt
 cases vb
 ·
  have jt:=zh (show TG=(1,ix) from HG.out);obtain ⟨r0,r1,r2,r3,r4,r5,r6,r7,r8,r9,mW,mC,nB,oJ⟩:=fq.out.q;have rf:=fq.out.f;go_wp2_with fail;change bodyPost _ _ _ _ _ (pts w1 (w.heap.size+1) (zQ 0 0 0 0 Sl.nil 0 0));have hby:=fq.out.all 0 0 0 0 Sl.nil 0 0;have eD:=zh (zD (B:=w.heap.size) (b:=(w.heap.size+1)) (by omega) (zQ 0 0 0 0 Sl.nil 0 0) eP.out);have gW:=jf.out (pts w1 (w.heap.size+1) (zQ 0 0 0 0 Sl.nil 0 0));rw[jt.out];generalize pts w1 (w.heap.size+1) (zQ 0 0 0 0 Sl.nil 0 0)=V at *;exact au (v:=.tuple #[zd 0 0 0 0 Sl.nil 0 0,.int .i64 1]) (by simp[results,Tryz.results104,go_sem,hby.q]) rfl ⟨⟨_,rfl,gW⟩,eD.out⟩
 have afD:=DS.out rfl
 by_cases hm:md=fF
 ·
  subst hm;have jt:=zh (show TG=(0,⟨n,r,md+1,z,⟨f,L,G⟩⟩) by rw[HG.out,ah rfl,ah rfl]);clear HG DS;obtain ⟨x0,x1,x2,x3,x4,x5,x6,x7,x8,x9,gq,gu,gj,gl⟩:=fh.out.q;have xf:=fh.out.f;go_upto_region 6 with fail;change Code.wp _ _ _ _ (pts w1 w.heap.size [(2,.int .i64 (md+1))]);have fW:=zh (fh.out.Jz (md+1));have gN:=zh (fq.out.eE (show w.heap.size+1≠w.heap.size by omega) [(2,.int .i64 (md+1))]);have eM:=zh (zD (B:=w.heap.size) (b:=w.heap.size) (ag _) [(2,.int .i64 (md+1))] eP.out);have hz2:(pts w1 w.heap.size [(2,.int .i64 (md+1))]).heap.size=w1.heap.size:=uf _ _;generalize pts w1 w.heap.size [(2,.int .i64 (md+1))]=w2 at *;clear x0 x1 x2 x3 x4 x5 x6 x7 x8 x9 gq gu gj gl xf;clear fh fq eP;obtain ⟨x0,x1,x2,x3,x4,x5,x6,x7,x8,x9,gq,gu,gj,gl⟩:=fW.out.q;have xf:=fW.out.f;go_wp2_with fail
  refine (HW.out _ eM.out).mono ?_;rintro e w3 ⟨⟨s3,rfl,rL⟩,hb3⟩;have iw:=zh (fW.out.below hb3);have nh:=zh (gN.out.below hb3);have gy:=zh (zA eM.out hb3);have mg:=zh (rL.mono (show w.heap.size+2≤w2.heap.size by omega));clear x0 x1 x2 x3 x4 x5 x6 x7 x8 x9 gq gu gj gl xf;clear hb3 rL fW gN eM HW hz2;obtain ⟨x0,x1,x2,x3,x4,x5,x6,x7,x8,x9,gq,gu,gj,gl⟩:=iw.out.q;have xf:=iw.out.f;go_upto_region 7 with fail;change Code.wp _ _ _ _ (pts w3 w.heap.size (yu s3 L G));have jc:=zh (iw.out.map s3 L G);have mN:=zh (nh.out.eE (show w.heap.size+1≠w.heap.size by omega) (yu s3 L G));have gD:=zh (zD (B:=w.heap.size) (b:=w.heap.size) (ag _) (yu s3 L G) gy.out);have jM:=zh (mg.out.pts (show w.heap.size<w.heap.size+2 by omega) (yu s3 L G));generalize pts w3 w.heap.size (yu s3 L G)=w4 at *;clear x0 x1 x2 x3 x4 x5 x6 x7 x8 x9 gq gu gj gl xf;clear iw nh gy mg
  obtain ⟨x0,x1,x2,x3,x4,x5,x6,x7,x8,x9,gq,gu,gj,gl⟩:=jc.out.q;obtain ⟨r0,r1,r2,r3,r4,r5,r6,r7,r8,r9,mW,mC,nB,oJ⟩:=mN.out.q;have rf:=mN.out.f;go_wp2_with fail;change bodyPost _ _ _ _ _ (pts w4 (w.heap.size+1) (zQ n r (md+1) z s3 L G));have hby:=mN.out.all n r (md+1) z s3 L G;have eD:=zh (zD (B:=w.heap.size) (b:=(w.heap.size+1)) (by omega) (zQ n r (md+1) z s3 L G) gD.out);have gW:=(jM.out.pts (show w.heap.size+1<w.heap.size+2 by omega) (zQ n r (md+1) z s3 L G)).mono (show w.heap.size≤w.heap.size+2 by omega);rw[jt.out];generalize pts w4 (w.heap.size+1) (zQ n r (md+1) z s3 L G)=V at *;exact au (v:=.tuple #[zd n r (md+1) z s3 L G,.int .i64 0]) (by simp[results,Tryz.results104,go_sem,hby.q]) rfl ⟨⟨_,rfl,gW⟩,eD.out⟩
 have jt:=zh (show TG=(12,ix) by rw[HG.out,ah rfl,ai hm]);have e0:(md==fF)=false:=beq_eq_false_iff_ne.2 hm;clear HG DS;obtain ⟨x0,x1,x2,x3,x4,x5,x6,x7,x8,x9,gq,gu,gj,gl⟩:=fh.out.q;obtain ⟨r0,r1,r2,r3,r4,r5,r6,r7,r8,r9,mW,mC,nB,oJ⟩:=fq.out.q;have rf:=fq.out.f;go_wp2_with fail;change bodyPost _ _ _ _ _ (pts w1 (w.heap.size+1) (zQ 0 0 0 0 Sl.nil 0 0));have hby:=fq.out.all 0 0 0 0 Sl.nil 0 0;have eD:=zh (zD (B:=w.heap.size) (b:=(w.heap.size+1)) (by omega) (zQ 0 0 0 0 Sl.nil 0 0) eP.out);have gW:=jf.out (pts w1 (w.heap.size+1) (zQ 0 0 0 0 Sl.nil 0 0));rw[jt.out];generalize pts w1 (w.heap.size+1) (zQ 0 0 0 0 Sl.nil 0 0)=V at *;exact au (v:=.tuple #[zd 0 0 0 0 Sl.nil 0 0,.int .i64 12]) (by simp[results,Tryz.results104,go_sem,hby.q]) rfl ⟨⟨_,rfl,gW⟩,eD.out⟩
theorem vF {i l:Int} {r:Bool} {L:List GP} {j:Nat} (h:L.length=j+1):ze ⟨i,l,r,ep L⟩=(pat L j).1:=by
 unfold ze
 show eV (ep L) ((ep L).length-1)=_
 rw[zn,h,yv]
 rfl
theorem zEv (i l:Int) (r:Bool) (a:Option Addr) (n c:Nat) (L:List GP) (w:World) (h:fD w (.slice a n c) L) (hs:∀ p∈L,∀ j,j<8→(p.1.m.st j).length≤10000) :
  Calls Tryz.prog 35 #[zO i l r a n c] w fun e w'=>e=.returned (.bool (vO ⟨i,l,r,ep L⟩))∧Below w.heap.size w w':=by
 have fQ:=zh (fun W (hb:Below w.heap.size w W)=>xD i l r a n c L W (h.below hb) hs);have eB:=zh (eW.new w i l r a n c 27);have eH:=zh (zM w i l r a n c 27);have hcs:vO ⟨i,l,r,ep L⟩=(zY ⟨i,l,r,ep L⟩&&decide ((ze ⟨i,l,r,ep L⟩).num<8)):=rfl;rw[hcs];clear hcs
 cases hv:zY ⟨i,l,r,ep L⟩
 ·
  rw[hv] at fQ;clear h hs hv
  go_enter Tryz.func35,Tryz.ntmps35
  go_upto_region 1 with fail;obtain ⟨W,hW⟩:∃ W,w.alloc (.cells (zK i l r a n c) 27)=W:=⟨_,rfl⟩
  change Code.wp _ _ _ _ (w.alloc (.cells (zK i l r a n c) 27));rw[hW] at eB eH ⊢;clear hW;have nW:=eB.out.lt;obtain ⟨k0,k1,k2,k3⟩:=eB.out.q;go_wp2_with fail;refine (fQ.out _ eH.out).mono ?_;rintro e w1 ⟨rfl,hb1⟩;have eP:=zh (zA eH.out hb1);clear k0 k1 k2 k3 hb1;go_wp2_with fail;go_ret;exact ⟨rfl,eP.out⟩
 rw[hv] at fQ;have hV:=(zW _).1 hv;have fO:L.length=n:=by
  obtain ⟨_,_,e,_⟩:=h.shape;injection e with _ e _;exact e.symm
 have hl:(ep L).length=n:=by rw[zn,fO]
 have hn:1≤n∧n≤8:=by have:=hV.len;simp only[hl] at this;exact this
 obtain ⟨j,rfl⟩:∃ j,n=j+1:=⟨n-1,by omega⟩
 rw[vF fO];have HR:=zh h;clear hV fO hl hv h hs;obtain ⟨b,off,rfl,hg⟩:=HR.out.at (show j<j+1 by omega);have HG:=zh hg;clear hg HR;generalize pat L j=p at *;obtain ⟨⟨num,rev,md,sz,f,LV,GA⟩,s⟩:=p;dsimp only at *
 go_enter Tryz.func35,Tryz.ntmps35
 go_upto_region 1 with fail;obtain ⟨W,hW⟩:∃ W,w.alloc (.cells (zK i l r (some ⟨b,off,none⟩) (j+1) c) 27)=W:=⟨_,rfl⟩
 change Code.wp _ _ _ _ (w.alloc (.cells (zK i l r (some ⟨b,off,none⟩) (j+1) c) 27));rw[hW] at eB eH ⊢;clear hW;have nW:=eB.out.lt;obtain ⟨k0,k1,k2,k3⟩:=eB.out.q;go_wp2_with fail;refine (fQ.out _ eH.out).mono ?_;rintro e w1 ⟨rfl,hb1⟩;clear k0 k1 k2 k3;have eP:=zh (zA eH.out hb1);have fh:=zh (eB.out.below hb1);have sB:=zh (HG.out.below eP.out);clear hb1 eH eB HG fQ;have j3:IntKind.i64.wrap (j:Int)=(j:Int):=aF _ (by omega);have i2:(j:Int)<((j+1:Nat):Int):=by omega
 have v3:=fh.out.c3;have g0:=sB.out.n0;dsimp only at g0;go_wp2_with fail;go_ret;exact ⟨by simp,eP.out⟩
theorem qd (g:Gn) (s:Sl) (w:World) (h:fG w s g.m.st) (hs:∀ i,i<8→(g.m.st i).length≤10000) :
  Calls Tryz.prog 48 #[zd g.num g.rev g.mode g.size s g.m.live g.m.d_] w fun e w'=>(∃ s',e=.returned (zd g.num g.rev g.mode g.size s' g.m.live g.m.d_)∧eZ w' w.heap.size s' g.m.st)∧Below w.heap.size w w':=by
 have HW:=zh (fun W (hb:Below w.heap.size w W)=>vp s g.m 0 W (h.below hb) hs);rw[uB] at HW;obtain ⟨n,r,md,z,⟨f,L,G⟩⟩:=g;dsimp only at *;obtain ⟨W,hW,fM,hbr,fU⟩:=wv w n r md z s L G 38;have HX:=zh fM;have HR:=zh hbr;have HB:=zh fU;clear fM hbr fU h hs
 go_enter Tryz.func48,Tryz.ntmps48
 go_upto_region 1 with fail;change Code.wp _ _ _ _ ((w.alloc (.cells (zX n r md z s L G) 38)).alloc (.cells (zX 0 0 0 0 Sl.nil 0 0) 38));rw[hW];clear hW;obtain ⟨x0,x1,x2,x3,x4,x5,x6,x7,x8,x9,gq,gu,gj,gl⟩:=HX.out.q;go_wp2_with fail;refine (HW.out _ HB.out).mono ?_;rintro e w1 ⟨⟨t,rfl,ho⟩,hb⟩;have hlr:=HR.out.lt;have jQ:=zh (ho.mono (show w.heap.size+2≤W.heap.size by omega));have fh:=zh (HX.out.below hb);have fq:=zh (HR.out.below hb);have eP:=zh (zA HB.out hb);clear x0 x1 x2 x3 x4 x5 x6 x7 x8 x9 gq gu gj gl;clear ho hb HX HR HB HW;have xf:=fh.out.f;obtain ⟨x0,x1,x2,x3,x4,x5,x6,x7,x8,x9,gq,gu,gj,gl⟩:=fh.out.q;go_upto_region 2 with fail;clear xf;clear x0 x1 x2 x3 x4 x5 x6 x7 x8 x9 gq gu gj gl;change Code.wp _ _ _ _ (pts w1 w.heap.size (yu t L G));have fW:=zh (fh.out.map t L G)
 have gN:=zh (fq.out.eE (show w.heap.size+1≠w.heap.size by omega) (yu t L G));have eM:=zh (zD (B:=w.heap.size) (b:=w.heap.size) (ag _) (yu t L G) eP.out);have gC:=zh (jQ.out.pts (show w.heap.size<w.heap.size+2 by omega) (yu t L G));generalize pts w1 w.heap.size (yu t L G)=w2 at *;clear fh fq eP jQ;obtain ⟨x0,x1,x2,x3,x4,x5,x6,x7,x8,x9,gq,gu,gj,gl⟩:=fW.out.q;obtain ⟨y0,y1,y2,y3,y4,y5,y6,y7,y8,y9,Gs,Gt,Gu,Gv⟩:=gN.out.q;have rf:=gN.out.f;go_wp2_with fail;change bodyPost _ _ _ _ _ (pts w2 (w.heap.size+1) (zQ n r md z t L G));have hby:=gN.out.all n r md z t L G;have eD:=zh (zD (B:=w.heap.size) (b:=(w.heap.size+1)) (by omega) (zQ n r md z t L G) eM.out);have gW:=(gC.out.pts (show w.heap.size+1<w.heap.size+2 by omega) (zQ n r md z t L G)).mono (show w.heap.size≤w.heap.size+2 by omega)
 generalize pts w2 (w.heap.size+1) (zQ n r md z t L G)=V at *;exact au (v:=zd n r md z t L G) (by simp[results,Tryz.results48,go_sem,hby.q]) rfl ⟨⟨_,rfl,gW⟩,eD.out⟩
theorem zKX (i l:Int) (r:Bool) (a:Option Addr) (n c:Nat) (L:List GP) (w:World) (h:fD w (.slice a n c) L) (hs:∀ p∈L,∀ j,j<8→(p.1.m.st j).length≤10000) :
  Calls Tryz.prog 11 #[zO i l r a n c] w (KZ w (wn ⟨i,l,r,ep L⟩)):=by
 have fQ:=zh (fun W (hb:Below w.heap.size w W)=>xD i l r a n c L W (h.below hb) hs);have eB:=zh (eW.new w i l r a n c 27);have eH:=zh (zM w i l r a n c 27);have hcs:wn ⟨i,l,r,ep L⟩=if zY ⟨i,l,r,ep L⟩=true then (0,ze ⟨i,l,r,ep L⟩) else (1,ix):=rfl
 cases hv:zY ⟨i,l,r,ep L⟩
 ·
  rw[hv] at fQ;rw[hv,ai (by decide)] at hcs;have HC:=zh hcs;clear h hs hv hcs
  go_enter Tryz.func11,Tryz.ntmps11
  go_upto_region 1 with fail;obtain ⟨W,hW⟩:∃ W,w.alloc (.cells (zK i l r a n c) 27)=W:=⟨_,rfl⟩
  change Code.wp _ _ _ _ ((w.alloc (.cells (zK i l r a n c) 27)).alloc (.cells (zX 0 0 0 0 Sl.nil 0 0) 38));have hsz:W.heap.size=w.heap.size+1:=by rw[← hW];simp
  rw[hW] at eB eH ⊢;clear hW;obtain ⟨W2,hW2⟩:∃ W2,W.alloc (.cells (zX 0 0 0 0 Sl.nil 0 0) 38)=W2:=⟨_,rfl⟩
  have HR:=zh (show eO W2 (w.heap.size+1) 0 0 0 0 Sl.nil 0 0 from by have:=eO.new W 0 0 0 0 Sl.nil 0 0 38;rw[hW2,hsz] at this;exact this);have ew:=zZ W 0 0 0 0 Sl.nil 0 0 38;rw[hW2] at ew ⊢;have eM:=zh (zA eH.out ew);have fW:=zh (eB.out.below ew);clear ew hW2;obtain ⟨k0,k1,k2,k3⟩:=fW.out.q;go_wp2_with fail;refine (fQ.out _ eM.out).mono ?_;rintro e w1 ⟨rfl,hb1⟩;have eP:=zh (zA eM.out hb1);have fh:=zh (fW.out.below hb1);have fq:=zh (HR.out.below hb1);clear k0 k1 k2 k3 hb1 eM fW HR eB eH;have rf:=fq.out.f;obtain ⟨y0,y1,y2,y3,y4,y5,y6,y7,y8,y9,Gs,Gt,Gu,Gv⟩:=fq.out.q;go_wp2_with fail;change bodyPost _ _ _ _ _ (pts w1 (w.heap.size+1) (zQ 0 0 0 0 Sl.nil 0 0));have hby:=fq.out.all 0 0 0 0 Sl.nil 0 0;have eD:=zh (zD (B:=w.heap.size) (b:=(w.heap.size+1)) (by omega) (zQ 0 0 0 0 Sl.nil 0 0) eP.out)
  generalize pts w1 (w.heap.size+1) (zQ 0 0 0 0 Sl.nil 0 0)=V at *;exact au (v:=.tuple #[zd 0 0 0 0 Sl.nil 0 0,.int .i64 1]) (by simp[results,Tryz.results11,go_sem,hby.q]) rfl ⟨⟨Sl.nil,by rw[HC.out];first|done|rfl,by rw[HC.out];exact eZ.nil _ _⟩,eD.out⟩
 rw[hv] at fQ;rw[hv,ah rfl] at hcs;have hV:=(zW _).1 hv;have fO:L.length=n:=by
  obtain ⟨_,_,e,_⟩:=h.shape;injection e with _ e _;exact e.symm
 have hl:(ep L).length=n:=by rw[zn,fO]
 have hn:1≤n∧n≤8:=by have:=hV.len;simp only[hl] at this;exact this
 obtain ⟨j,rfl⟩:∃ j,n=j+1:=⟨n-1,by omega⟩
 rw[vF fO] at hcs;have HC:=zh hcs;have jf:=zh h;have hmem:=yX (l:=L) (i:=j) (by omega);have jS:=zh (h.m _ hmem);have Gw:=zh (hs _ hmem);clear hV fO hl hv h hs hmem hcs;obtain ⟨b,off,rfl,hg⟩:=jf.out.at (show j<j+1 by omega);have HG:=zh hg;clear hg jf;generalize pat L j=p at *;obtain ⟨⟨num,rev,md,sz,⟨f,LV,GA⟩⟩,s⟩:=p;dsimp only at *
 go_enter Tryz.func11,Tryz.ntmps11
 go_upto_region 1 with fail;obtain ⟨W,hW⟩:∃ W,w.alloc (.cells (zK i l r (some ⟨b,off,none⟩) (j+1) c) 27)=W:=⟨_,rfl⟩
 change Code.wp _ _ _ _ ((w.alloc (.cells (zK i l r (some ⟨b,off,none⟩) (j+1) c) 27)).alloc (.cells (zX 0 0 0 0 Sl.nil 0 0) 38));have hsz:W.heap.size=w.heap.size+1:=by rw[← hW];simp
 rw[hW] at eB eH ⊢;clear hW;obtain ⟨W2,hW2⟩:∃ W2,W.alloc (.cells (zX 0 0 0 0 Sl.nil 0 0) 38)=W2:=⟨_,rfl⟩
 have HR:=zh (show eO W2 (w.heap.size+1) 0 0 0 0 Sl.nil 0 0 from by have:=eO.new W 0 0 0 0 Sl.nil 0 0 38;rw[hW2,hsz] at this;exact this);have ew:=zZ W 0 0 0 0 Sl.nil 0 0 38;rw[hW2] at ew ⊢;have eM:=zh (zA eH.out ew);have fW:=zh (eB.out.below ew);clear ew hW2;obtain ⟨k0,k1,k2,k3⟩:=fW.out.q;go_wp2_with fail;refine (fQ.out _ eM.out).mono ?_;rintro e w1 ⟨rfl,hb1⟩;have eP:=zh (zA eM.out hb1);have fh:=zh (fW.out.below hb1);have fq:=zh (HR.out.below hb1);clear k0 k1 k2 k3 hb1 eM fW HR eB eH;have sB:=zh (HG.out.below eP.out);clear HG fQ;have j3:IntKind.i64.wrap (j:Int)=(j:Int):=aF _ (by omega);have i2:(j:Int)<((j+1:Nat):Int):=by omega
 have v3:=fh.out.c3;obtain ⟨g0,g1,g2,g3,g4,g5,g6,g7,g8,g9,g10,g11,g12,g13⟩:=sB.out.q
 try dsimp only at g0 g1 g2 g3 g4 g5 g6 g7 g8 g9 g10 g11 g12 g13
 go_wp2_with fail;refine (qd ⟨num,rev,md,sz,⟨f,LV,GA⟩⟩ s w1 (jS.out.below eP.out) Gw.out).mono ?_;rintro e w2 ⟨⟨t,rfl,ho⟩,hb2⟩;have hlr:=fq.out.lt;have gC:=zh (ho.mono (show w.heap.size+2≤w1.heap.size by omega));have gN:=zh (fq.out.below hb2);have eM:=zh (zA eP.out hb2);clear ho hb2 fq eP fh sB v3;clear g0 g1 g2 g3 g4 g5 g6 g7 g8 g9 g10 g11 g12 g13;have rf:=gN.out.f;obtain ⟨y0,y1,y2,y3,y4,y5,y6,y7,y8,y9,Gs,Gt,Gu,Gv⟩:=gN.out.q;go_wp2_with fail;change bodyPost _ _ _ _ _ (pts w2 (w.heap.size+1) (zQ num rev md sz t LV GA));have hby:=gN.out.all num rev md sz t LV GA;have eD:=zh (zD (B:=w.heap.size) (b:=(w.heap.size+1)) (by omega) (zQ num rev md sz t LV GA) eM.out);have gW:=(gC.out.pts (show w.heap.size+1<w.heap.size+2 by omega) (zQ num rev md sz t LV GA)).mono (show w.heap.size≤w.heap.size+2 by omega)
 generalize pts w2 (w.heap.size+1) (zQ num rev md sz t LV GA)=V at *;exact au (v:=.tuple #[zd num rev md sz t LV GA,.int .i64 0]) (by simp[results,Tryz.results11,go_sem,hby.q]) rfl ⟨⟨t,by rw[HC.out];first|done|rfl,by rw[HC.out];exact gW⟩,eD.out⟩
/-! ### From -/
def uR (T:List It) (j:Nat) (i:Nat):List It:=pI i (T.take j)
theorem zH6 {T:List It} {j:Nat} (h:j<T.length):uR T (j+1) (zl (ea T j).key)=uR T j (zl (ea T j).key)++[ea T j]:=by
 unfold uR pI;rw[xI h,cU];simp
theorem zKn {T:List It} {j i:Nat} (h:j<T.length) (hi:i≠zl (ea T j).key):uR T (j+1) i=uR T j i:=by
 unfold uR pI;rw[xI h,cU];simp[aQ hi]
theorem zHo {T:List It} {j:Nat} (h:j<T.length):uR T (j+1)=fun i=>if i=zl (ea T j).key then uR T j (zl (ea T j).key)++[ea T j] else uR T j i:=funext fun i=>by
 by_cases e:i=zl (ea T j).key
 ·
  rw[ah e,e,zH6 h]
 rw[ai e,zKn h e]
theorem zJS (T:List It) (j i:Nat):(uR T j i).length≤j:=by
 unfold uR;exact ak (zKD _ _) (by rw[ay];omega)
theorem zGj (T:List It):uR T 0=fun _=>[]:=funext fun _=>rfl
theorem zJ3 (T:List It):uR T T.length=fun i=>pI i T:=funext fun i=>by unfold uR;rw[cB]
theorem Yy (x:It) (w:World):Calls Tryz.prog 127 #[.agg #[.int .u64 x.key,.int .u32 x.ck,.int .i64 x.off,.int .i64 x.size]] w fun e w'=>e=.returned (.bool (okB x))∧Below w.heap.size w w':=Wn x.key x.ck x.off x.size w
theorem Yz (v:Value) (l:List It) (g:Int) (w:World) (h:ja w v l) (hs:l.length≤80000) :
  Calls Tryz.prog 125 #[v,.int .i64 g] w fun e w'=>(∃ s',e=.returned (yF s' (tE l g).live (tE l g).d_)∧eZ w' w.heap.size s' (tE l g).st)∧Below w.heap.size w w':=by
 have Hr:=zh h;have DU:=zh (fun v W h=>qB v l W h (ak hs (by decide)));have pM:=zh (fun (ho:l.all okB=true) v W h=>Xp v (fN l) W h (fun x hx=>(Wr (zKK ho) x hx).2.2.2.1) (ak (yZ l) (ak hs (by decide))));have eB:=zh (eQ.new w Sl.nil 0 0 111);have eH:=zh (zb w Sl.nil 0 0 111);have jq:=zh (fun h=>zJo (l:=l) (g:=g) h);have lj:=zh (fun h h0 h1=>SG (l:=l) (g:=g) h h0 h1);have YA:=zh (show (∀ j,j<l.length→_)→_ from kF (l:=l) (p:=okB));have YB:=zh (show ∀ j,j<l.length→_→_ from fun j=>tv (l:=l) (p:=okB) (j:=j));have hl:=yZ l;have hsb:=tp (fN l);have I7:zv (fN l)≤80000*4127:=ak hsb (aW _ (ak hl hs));clear h hsb;generalize tE l g=FM at *;generalize l.all okB=ob at *;generalize fN l=T at *;obtain ⟨a,cap,rfl,h1,h2⟩:=Hr.out.shape;generalize hn:l.length=n at *;clear hn
 go_enter Tryz.func125,Tryz.ntmps125
 go_upto_region 1 with fail;obtain ⟨W0,hW0⟩:∃ W0,w.alloc (.cells (yj Sl.nil 0 0) 111)=W0:=⟨_,rfl⟩
 rw[hW0] at eB eH;rw[show w.alloc (.cells #[.slice none 0 0,.slice none 0 0,.slice none 0 0,.slice none 0 0,.slice none 0 0,.slice none 0 0,.slice none 0 0,.slice none 0 0,.int .i64 0,.int .i64 0] 111)=W0 from hW0];clear hW0;go_wp2_with fail
 go_loopw [5] (fun iv W=>∃ i:Nat,iv=.int .i64 (i:Int)∧i≤n∧Hid (∀ r,r<i→okB (ea l r)=true)∧Hid (Below W0.heap.size W0 W)) (fun iv _=>n-(intOf iv).toNat)
 case atStart=>exact ⟨0,rfl,aq _,zh (fun r hr=>by omega),zh (aj _ _)⟩
 obtain ⟨i,rfl,hi,mf,HB⟩:=hrel
 by_cases hin:i<n
 ·
  have ii1:(i:Int)<(n:Int):=by omega
  obtain ⟨pb,Jf,e,k0,k1,k2,k3⟩:=(Hr.out.below (zA eH.out HB.out)).at hin;subst e;have Ta:=zh (YB.out i hin)
  have sD:=zh (fun (hx:okB (ea l i)=true) r (hr:r<i+1)=>show okB (ea l r)=true from by
   by_cases e:r=i
   ·
    rw[e];exact hx
   exact mf.out r (by omega))
  generalize ea l i=x at *;have HV:=zh (fun W=>Yy x W)
  cases hx:okB x
  ·
   rw[hx] at HV;have HF:=zh (jq.out (fun h=>by rw[Ta.out hx] at h;cases h.1));clear hx Ta sD jq lj;go_wp2_with fail;refine (HV.out _).mono ?_;rintro e w1 ⟨rfl,hb1⟩;have Cy:=zh (eB.out.below (zA HB.out hb1));have eD:=zh (zA eH.out (zA HB.out hb1));clear hb1 k0 k1 k2 k3;obtain ⟨c0,c1,c2,c3,c4,c5,c6,c7,c8,c9⟩:=Cy.out.q;have cF:=Cy.out.f;go_wp2_with fail;change bodyPost _ _ _ _ _ (yH w1 w.heap.size Sl.nil 0 0);have hby:=Cy.out.all Sl.nil 0 0;have BR:=zh (za eD.out (ag _) Sl.nil 0 0);generalize yH w1 w.heap.size Sl.nil 0 0=V9 at *;exact au (v:=yF Sl.nil 0 0) (by simp[results,Tryz.results125,go_sem,hby.q]) rfl ⟨⟨Sl.nil,by rw[HF.out];rfl,by rw[HF.out];exact eZ.nil _ _⟩,BR.out⟩
  rw[hx] at HV;have BI:=zh (sD.out hx);clear hx Ta sD;go_wp2_with fail;refine (HV.out _).mono ?_;rintro e w1 ⟨rfl,hb1⟩;have eD:=zh (zA HB.out hb1);clear hb1 k0 k1 k2 k3;go_wp2_with fail;exact ⟨⟨i+1,by go_num,by omega,BI,eD⟩,by simp[intOf];omega⟩
 have ii1:¬ (i:Int)<(n:Int):=by omega
 obtain rfl:i=n:=by omega
 have Mq:ob=true:=YA.out mf.out;subst Mq;have nV:=zh (eB.out.below HB.out);have eP:=zh (zA eH.out HB.out);clear YA YB mf eB eH HB
 by_cases hg:0≤g∧g≤1099511627776
 ·
  obtain ⟨hg0,hg1⟩:=hg;have g1:decide (g<0)=false:=by simp;omega
  have g2:decide (1099511627776<g)=false:=by simp;omega
  have YC:=zh (lj.out rfl hg0 hg1);have Tb:=zh (pM.out rfl);clear jq lj pM;have Jb:=zh (DU.out _ wr (Hr.out.below eP.out));go_wp2_with fail;refine Jb.out.mono ?_;rintro e w2 ⟨v2,rfl,eG,hb2⟩;have fW:=zh (nV.out.below hb2);have eM:=zh (zA eP.out hb2);have gN:=zh (fC.rd eG);have MH:=zh (Tb.out _ w2 (fC.rd eG));obtain ⟨ta,tc,rfl,ht1,ht2⟩:=gN.out.shape;clear eG hb2 nV eP Jb;go_wp2_with fail;refine MH.out.mono ?_;rintro e w3 ⟨rfl,hb3⟩;have iw:=zh (fW.out.below hb3);have gy:=zh (zA eM.out hb3);have nh:=zh (gN.out.below hb3);clear hb3 fW eM gN MH;have HAs:=zh (fun j (h:j<T.length)=>zHo h);have MI:=zh (fun j i=>zJS T j i);have Mr:=zh (zGj T);have HAz:=zh (zJ3 T);generalize htn:T.length=tn at *;clear htn;generalize zv T=S at *;go_upto_region 10 with fail;obtain ⟨W4,PO⟩:∃ W4,w3.alloc (.cells (yj Sl.nil (S:Int) g) 111)=W4:=⟨_,rfl⟩
  have sq:=zh (show eQ W4 w3.heap.size Sl.nil (S:Int) g from PO▸eQ.new w3 Sl.nil (S:Int) g 111);have gD:=zh (show Below w3.heap.size w3 W4 from PO▸zb w3 Sl.nil (S:Int) g 111);have hm0:w.heap.size<w3.heap.size:=iw.out.lt;have hm1:w3.heap.size<W4.heap.size:=sq.out.lt;rw[show w3.alloc (.cells #[.slice none 0 0,.slice none 0 0,.slice none 0 0,.slice none 0 0,.slice none 0 0,.slice none 0 0,.slice none 0 0,.slice none 0 0,.int .i64 (S:Int),.int .i64 g] 111)=W4 from PO];clear PO;go_wp2_with fail
  go_loopw [7] (fun iv W=>∃ (j:Nat) (s:Sl),iv=.int .i64 (j:Int)∧j≤tn∧Hid (eQ W w3.heap.size s (S:Int) g)∧Hid (eZ W W4.heap.size s (uR T j))∧Hid (Iv s)∧Hid (Below w3.heap.size w3 W)∧Hid (W4.heap.size≤W.heap.size)) (fun iv _=>tn-(intOf iv).toNat)
  case atStart=>exact ⟨0,Sl.nil,rfl,aq _,sq,zh (by rw[Mr.out];exact eZ.nil _ _),zh Iv.nil,gD,zh (ag _)⟩
  obtain ⟨j,s,rfl,hj,HY,HO,HA,HB,HL⟩:=hrel
  by_cases hjt:j<tn
  ·
   have jj1:(j:Int)<(tn:Int):=by omega
   obtain ⟨qb,afQ,e,q0,q1,q2,q3⟩:=(nh.out.below HB.out).at hjt;subst e;have HAj:=zh (HAs.out j hjt);have jR:=wX (ea T j).key;have YD:=MI.out j (zl (ea T j).key);generalize ea T j=x at *;have jG:=zh (fun W=>Xn x.key W);generalize zl x.key=k at *;go_wp2_with fail;refine (jG.out _).mono ?_;rintro e w8 ⟨rfl,rfl⟩;have ck:=HY.out.c k jR;rw[show s.v k=.slice (s.a k) (s.n k) (s.c k) from rfl] at ck;have MJ:=zh (show wr.ownsRow W4.heap.size 49 4 (.slice (s.a k) (s.n k) (s.c k)) (uR T j k).length (zU (uR T j k)) from HO.out k jR);have fU:=zh (show Below wr.heap.size wr (wr.alloc (xN x)).drew from zi (yB wr x));have Tc:=zh (ak HL.out fU.out.size)
   have MK:=zh (fun w9 va n vc (hown:World.ownsRow w9 W4.heap.size 49 4 (.slice va n vc) n (zU (uR T j k++[x]))) hg hat=>zJg (w:=(wr.alloc (xN x)).drew) (iw.out.below (zA HB.out fU.out)) (HY.out.below fU.out) (HO.out.keep fU.out) HA.out (T:=[]) (B2:=w3.heap.size+1) (aT _ _ _ _) (zA HB.out fU.out) (ag _) hm0 (dD _) (Nat.succ_le_of_lt hm1) Tc.out (fun g hg=>by cases hg) jR hown hg hat);have YE:=zh (fun W (hg:(wr.alloc (xN x)).drew.grownBy W (s.v k).ownBlock)=>((HY.out.below fU.out).grown hg (ur (HO.out k jR) hm1)));have jH:=zh (show ∀ u∈iC x,u.oneCell'=true from by have:=zq [x];rwa [xS] at this);have HCu:=zh (show zU (uR T j k++[x])=zU (uR T j k)++iC x by rw[zu,xS]);have ik8:(k:Int)<8:=by omega
   have afT:w3.heap.size<wr.heap.size:=HY.out.lt;go_wp2_with fail
   go_region_law ((refine qm (by rfl) (.tmp 51) (.tmp 56) 33 (by rfl) yI W4.heap.size (by rfl) ((MJ.out.alloc _).drew) (ad:=⟨wr.heap.size,0,none⟩) (m:=1) (c:=1) (news:=iC x) (by rfl) (by rfl) (zIE wr x _ rfl) jH.out (by unfold maxLen;omega) (by omega) Tc.out ?_;intro v2 w9 eG fp oW;obtain ⟨lJ,lK,hv2,_,_,_⟩:=zH eG;subst hv2;have Td:=YE.out _ fp;have c2:=Td.c k jR;have f2:=Td.f k;rw[show s.v k=.slice (s.a k) (s.n k) (s.c k) from rfl] at c2))
   all_goals
    obtain ⟨r1,r2,r3,r4,r5,r6⟩:=MK.out _ _ _ _ (by rw[HCu.out];exact eG) fp oW;have ML:W4.heap.size≤w9.heap.size:=ak Tc.out fp.size;clear c2 f2 Td eG fp oW ck MK YE MJ r1 r5;have HR:=zh (show _∧_∧_∧_ from ⟨r2,r3,r4,r6⟩);clear r2 r3 r4 r6;go_wp2_with fail;obtain ⟨r2,r3,r4,r6⟩:=HR.out;exact ⟨⟨j+1,s.set k lJ ((uR T j k).length+1) lK,by go_num,by omega,zh r2,zh (by rw[HAj.out];exact r3),zh r4,zh r6,zh (by simpa using ML)⟩,by simp[intOf];omega⟩
  have jj1:¬ (j:Int)<(tn:Int):=by omega
  obtain rfl:j=tn:=by omega
  have Cy:=zh (iw.out.below HB.out);have eD:=zh (zA gy.out HB.out);obtain ⟨d0,d1,d2,d3,d4,d5,d6,d7,d8,d9⟩:=HY.out.q;have dF:=HY.out.f;obtain ⟨c0,c1,c2,c3,c4,c5,c6,c7,c8,c9⟩:=Cy.out.q;have cF:=Cy.out.f;go_wp2_with fail;change bodyPost _ _ _ _ _ (yH wr w.heap.size s (S:Int) g);have hby:=Cy.out.all s (S:Int) g;have nw:=zh ((HO.out.lV (b:=w.heap.size) (by omega) s (S:Int) g).mono (show w.heap.size≤W4.heap.size by omega));have BR:=zh (za eD.out (ag _) s (S:Int) g);generalize yH wr w.heap.size s (S:Int) g=V9 at *;exact au (v:=yF s (S:Int) g) (by simp[results,Tryz.results125,go_sem,hby.q]) rfl ⟨⟨s,by rw[YC.out],by rw[YC.out];show eZ _ _ _ (fun i=>pI i T);rw[← HAz.out];exact nw.out⟩,BR.out⟩
 have HF:=zh (jq.out (fun h=>hg h.2));have hcs:g<0∨(0≤g∧1099511627776<g):=by omega
 have Cy:=nV;have eD:=eP;clear jq lj hg;rcases hcs with h0|⟨h0,h1'⟩
 ·
  have g1:decide (g<0)=true:=by simp;omega
  obtain ⟨c0,c1,c2,c3,c4,c5,c6,c7,c8,c9⟩:=Cy.out.q;have cF:=Cy.out.f;go_wp2_with fail;change bodyPost _ _ _ _ _ (yH wr w.heap.size Sl.nil 0 0);have hby:=Cy.out.all Sl.nil 0 0;have BR:=zh (za eD.out (ag _) Sl.nil 0 0);generalize yH wr w.heap.size Sl.nil 0 0=V9 at *;exact au (v:=yF Sl.nil 0 0) (by simp[results,Tryz.results125,go_sem,hby.q]) rfl ⟨⟨Sl.nil,by rw[HF.out];rfl,by rw[HF.out];exact eZ.nil _ _⟩,BR.out⟩
 have g1:decide (g<0)=false:=by simp;omega
 have g2:decide (1099511627776<g)=true:=by simp;omega
 obtain ⟨c0,c1,c2,c3,c4,c5,c6,c7,c8,c9⟩:=Cy.out.q;have cF:=Cy.out.f;go_wp2_with fail;change bodyPost _ _ _ _ _ (yH wr w.heap.size Sl.nil 0 0);have hby:=Cy.out.all Sl.nil 0 0;have BR:=zh (za eD.out (ag _) Sl.nil 0 0);generalize yH wr w.heap.size Sl.nil 0 0=V9 at *;exact au (v:=yF Sl.nil 0 0) (by simp[results,Tryz.results125,go_sem,hby.q]) rfl ⟨⟨Sl.nil,by rw[HF.out];rfl,by rw[HF.out];exact eZ.nil _ _⟩,BR.out⟩
end Go.Proofs.YtcgfilmmokmdjaaGreat
