import Derived.Test.YtcgfilmmokmdjaaGreatQAK
import Derived.Test.YtcgfilmmokmdjaaGreatQAL
import Derived.Test.YtcgfilmmokmdjaaGreatQAP
import Derived.Laws.Tables
import Derived.Test.YtcgfilmmokmdjaaGreatQAM
import Derived.Test.YtcgfilmmokmdjaaGreatQAV
import Derived.Test.YtcgfilmmokmdjaaGreatQAQ
import Derived.Test.YtcgfilmmokmdjaaGreatQAT
set_option linter.all false
set_option maxRecDepth 100000
set_option maxHeartbeats 32000000
namespace Go.Proofs.YtcgfilmmokmdjaaGreat
open Go.RowKit
theorem zIT (g m r k c o z:Int):Tryz.prog.built 230 [(0,.int .i64 g),(1,.int .i64 m),(2,.int .i64 r),(3,.agg #[.int .u64 k,.int .u32 c,.int .i64 o,.int .i64 z])]=some #[.int .i64 g,.int .i64 m,.int .i64 r,.int .u64 k,.int .u32 c,.int .i64 o,.int .i64 z]:=by kernel_rfl
theorem zLy:(Tryz.prog.info? 230).map (·.size)=some 7:=by kernel_rfl
theorem zKM (x:jK):(IG x).all (·.oneCell')=true:=all_oneCell_toArray (cs:=[.int .i64 x.gen,.int .i64 x.mode,.int .i64 x.rev,.int .u64 x.it.key,.int .u32 x.it.ck,.int .i64 x.it.off,.int .i64 x.it.size]) (fun v hv=>by
 simp only[aX,aY,aZ] at hv
 rcases hv with h|h|h|h|h|h|h<;>rw[h]<;>rfl)
theorem zIA (W:World) (g:Nat) (x:jK):W.setCells g 0 (IG x).toList=pts W g (y_ x):=uw g _ 0 W
theorem mF.there {W:World} {b:Nat} {x:jK} (h:mF W b x):W.there b 0 7:=fun j hj=>by
 refine ⟨?_,h.f _⟩;rcases (show j=0∨j=1∨j=2∨j=3∨j=4∨j=5∨j=6 by omega) with e|e|e|e|e|e|e<;>subst e
 ·
  rw[h.c0];rfl
 ·
  rw[h.c1];rfl
 ·
  rw[h.c2];rfl
 ·
  rw[h.c3];rfl
 ·
  rw[h.c4];rfl
 ·
  rw[h.c5];rfl
 rw[h.c6];rfl
theorem zB5 {P:Program} {ops:Array Oper} {rest:List Oper} {o:Oper} {a:Act} {w:World} {Q:Exit→Act→World→Prop} (hg:o.guard=none) (t:TypeId) (parts:Array (Nat×Operand)) (ho:o.op=.build t parts) (vs:List (Nat×Value)) (cells:Array Value)
  (hv:(parts.map fun (i,x)=>(i,a.eval x)).toList=vs) (hb:P.built t vs=some cells) (h:wpList P ops Q rest (a.put o.dst (.agg cells)) w):wpList P ops Q (o::rest) a w:=
 wpList_build hg t parts ho (by rw[hv,hb];rfl) (by rw[hv,hb];exact h)
theorem zIZ (ts:Array Value) (W:World) (b:Nat) (g m r k c o z:Int) (bo:Bool) (h4:ts[4]?.getD undef=.pointer (some ⟨b,0,none⟩)) (h5:ts[5]?.getD undef=.bool bo)
  (c0:W.cell? ⟨b,0,none⟩=some (.int .i64 g)) (c1:W.cell? ⟨b,1,none⟩=some (.int .i64 m)) (c2:W.cell? ⟨b,2,none⟩=some (.int .i64 r)) (c3:W.cell? ⟨b,3,none⟩=some (.int .u64 k)) (c4:W.cell? ⟨b,4,none⟩=some (.int .u32 c)) (c5:W.cell? ⟨b,5,none⟩=some (.int .i64 o)) (c6:W.cell? ⟨b,6,none⟩=some (.int .i64 z)) :
  Sem.run Tryz.prog (results Tryz.f155 ts) W=.ok (.tuple #[.agg #[.int .i64 g,.int .i64 m,.int .i64 r,.int .u64 k,.int .u32 c,.int .i64 o,.int .i64 z],.bool bo]) W:=by
 simp[results,Tryz.results155,go_sem,h4,h5,c0,c1,c2,c3,c4,c5,c6]
theorem zHF (i l:Int) (r:Bool) (a:Option Addr) (n c:Nat) (L:List GP) (w:World) (h:fD w (.slice a n c) L) (hs:∀ p∈L,∀ j,j<8→(p.1.m.st j).length≤10000) (hv:zY ⟨i,l,r,ep L⟩=false) (key:Int) :
  Calls Tryz.prog 155 #[zO i l r a n c,.int .u64 key] w fun e w'=>e=.returned (.tuple #[BZ ((yA ⟨i,l,r,ep L⟩ key).headD yU),.bool (!(yA ⟨i,l,r,ep L⟩ key).isEmpty)])∧Below w.heap.size w w':=by
 have fQ:=zh (fun W (hb:Below w.heap.size w W)=>zz i l r a n c L W (h.below hb) hs);rw[hv] at fQ;rw[kJ hv];have eB:=zh (eW.new w i l r a n c 31);have eH:=zh (zM w i l r a n c 31);have hcap:n≤9223372036854775807:=by
  show n≤maxLen
  obtain ⟨_,_,e,h1,h2⟩:=h.shape;injection e with _ e _;rw[e];exact ak h1 h2
 clear h hs hv
 go_enter Tryz.func155,Tryz.ntmps155
 go_upto_region 1 with fail;obtain ⟨W,hW⟩:∃ W,w.alloc (.cells (zK i l r a n c) 31)=W:=⟨_,rfl⟩
 change Code.wp _ _ _ _ ((w.alloc (.cells (zK i l r a n c) 31)).alloc _);have hsz:W.heap.size=w.heap.size+1:=by rw[← hW];simp
 rw[hW] at eB eH ⊢;clear hW;have nW:=eB.out.lt;have mZ:=zh (show mF (W.alloc (.cells #[.int .i64 0,.int .i64 0,.int .i64 0,.int .u64 0,.int .u32 0,.int .i64 0,.int .i64 0] 230)) (w.heap.size+1) yU by rw[← hsz];exact ⟨by simp[yU,fE],by simp[yU,fE],by simp[yU,fE],by simp[yU,fE],by simp[yU,fE],by simp[yU,fE],by simp[yU,fE],fun i=>by simp⟩);have eP:=zh (eH.out.alloc eH.out.size (.cells #[.int .i64 0,.int .i64 0,.int .i64 0,.int .u64 0,.int .u32 0,.int .i64 0,.int .i64 0] 230));have fh:=zh (eB.out.below ((aj _ W).alloc (ag _) (.cells #[.int .i64 0,.int .i64 0,.int .i64 0,.int .u64 0,.int .u32 0,.int .i64 0,.int .i64 0] 230)));clear eB eH;generalize W.alloc (.cells #[.int .i64 0,.int .i64 0,.int .i64 0,.int .u64 0,.int .u32 0,.int .i64 0,.int .i64 0] 230)=W1 at *;clear hsz nW;obtain ⟨k0,k1,k2,k3⟩:=fh.out.q;have z0:=mZ.out.c0
 have z1:=mZ.out.c1;have z2:=mZ.out.c2;have z3:=mZ.out.c3;have z4:=mZ.out.c4;have z5:=mZ.out.c5;have z6:=mZ.out.c6;have hf:=mZ.out.f;have hlz:w.heap.size+1<W1.heap.size:=mZ.out.lt
 by_cases h1:1≤n
 ·
  have i1:(0:Int)≤(n:Int)-1:=by omega
  have i2:¬ (n:Int)-1<0:=by omega
  go_wp2_with fail
  go_loopw [6] (fun iv V=>iv=.int .i64 ((n:Int)-1)∧V=W1) (fun _ _=>0)
  case atStart=>exact ⟨rfl,rfl⟩
  obtain ⟨rfl,rfl⟩:=hrel;go_wp2_with fail;refine (fQ.out _ eP.out).mono ?_;rintro e w1 ⟨rfl,hb1⟩;have K_:=zh (zA eP.out hb1);have HP:=zh (mZ.out.below hb1);clear k0 k1 k2 k3 hb1 z0 z1 z2 z3 z4 z5 z6 hf;have z0:=HP.out.c0;have z1:=HP.out.c1;have z2:=HP.out.c2;have z3:=HP.out.c3;have z4:=HP.out.c4;have z5:=HP.out.c5;have z6:=HP.out.c6;have hf:=HP.out.f;have hlz:w.heap.size+1<w1.heap.size:=HP.out.lt;go_wp2_with fail;change bodyPost _ _ _ _ _ (pts w1 (w.heap.size+1) (y_ yU));have hby:=HP.out.all yU;have eD:=zh (zD (B:=w.heap.size) (b:=w.heap.size+1) (by omega) (y_ yU) K_.out);generalize pts w1 (w.heap.size+1) (y_ yU)=V at *;refine au (v:=.tuple #[BZ yU,.bool false]) (by simp[results,Tryz.results155,go_sem,hby.c0,hby.c1,hby.c2,hby.c3,hby.c4,hby.c5,hby.c6]) rfl ⟨rfl,eD.out⟩
 have i1:¬ (0:Int)≤(n:Int)-1:=by omega
 have i2:(n:Int)-1<0:=by omega
 go_wp2_with fail
 go_loopw [6] (fun iv V=>iv=.int .i64 ((n:Int)-1)∧V=W1) (fun _ _=>0)
 case atStart=>exact ⟨rfl,rfl⟩
 obtain ⟨rfl,rfl⟩:=hrel;go_wp2_with fail;change bodyPost _ _ _ _ _ (pts wr (w.heap.size+1) (y_ yU));have hby:=mZ.out.all yU;have eD:=zh (zD (B:=w.heap.size) (b:=w.heap.size+1) (by omega) (y_ yU) eP.out);generalize pts wr (w.heap.size+1) (y_ yU)=V at *;refine au (v:=.tuple #[BZ yU,.bool false]) (by simp[results,Tryz.results155,go_sem,hby.c0,hby.c1,hby.c2,hby.c3,hby.c4,hby.c5,hby.c6]) rfl ⟨rfl,eD.out⟩
theorem zFJ (i l:Int) (r:Bool) (a:Option Addr) (n c:Nat) (L:List GP) (w:World) (h:fD w (.slice a n c) L) (hs:∀ p∈L,∀ j,j<8→(p.1.m.st j).length≤10000) (hv:zY ⟨i,l,r,ep L⟩=true) (key:Int) :
  Calls Tryz.prog 155 #[zO i l r a n c,.int .u64 key] w fun e w'=>e=.returned (.tuple #[BZ ((yA ⟨i,l,r,ep L⟩ key).headD yU),.bool (!(yA ⟨i,l,r,ep L⟩ key).isEmpty)])∧Below w.heap.size w w':=by
 have fQ:=zh (fun W (hb:Below w.heap.size w W)=>zz i l r a n c L W (h.below hb) hs);rw[hv] at fQ;have fO:L.length=n:=by
  obtain ⟨_,_,e,_⟩:=h.shape;injection e with _ e _;exact e.symm
 rw[ZE fO.symm hv];have hV:=(zW _).1 hv;have hn:1≤n∧n≤8:=by have:=hV.len;simp only[zn,fO] at this;exact this
 have HR:=zh h;have G5:=zh (show ∀ k,k<n→pat L k∈L from fun k hk=>yX (by omega));have Gw:=zh hs;have NB:=zh (show ∀ k,xU (ep L) key (k+1)=(match zg (pat L k).1.m key with|some x=>[⟨(pat L k).1.num,(pat L k).1.mode,(pat L k).1.rev,x,k⟩]|none=>[])++xU (ep L) key k from fun k=>by rw[← yv];rfl);have eB:=zh (eW.new w i l r a n c 31);have eH:=zh (zM w i l r a n c 31);clear h hs hv hV fO;obtain ⟨F,HF⟩:∃ F,Hid (xU (ep L) key n=F):=⟨_,zh rfl⟩
 rw[HF.out]
 go_enter Tryz.func155,Tryz.ntmps155
 go_upto_region 1 with fail;obtain ⟨W,hW⟩:∃ W,w.alloc (.cells (zK i l r a n c) 31)=W:=⟨_,rfl⟩
 change Code.wp _ _ _ _ ((w.alloc (.cells (zK i l r a n c) 31)).alloc _);have hsz:W.heap.size=w.heap.size+1:=by rw[← hW];simp
 rw[hW] at eB eH ⊢;clear hW;have nW:=eB.out.lt;have mZ:=zh (show mF (W.alloc (.cells #[.int .i64 0,.int .i64 0,.int .i64 0,.int .u64 0,.int .u32 0,.int .i64 0,.int .i64 0] 230)) (w.heap.size+1) yU by rw[← hsz];exact ⟨by simp[yU,fE],by simp[yU,fE],by simp[yU,fE],by simp[yU,fE],by simp[yU,fE],by simp[yU,fE],by simp[yU,fE],fun i=>by simp⟩);have eP:=zh (eH.out.alloc eH.out.size (.cells #[.int .i64 0,.int .i64 0,.int .i64 0,.int .u64 0,.int .u32 0,.int .i64 0,.int .i64 0] 230));have fh:=zh (eB.out.below ((aj _ W).alloc (ag _) (.cells #[.int .i64 0,.int .i64 0,.int .i64 0,.int .u64 0,.int .u32 0,.int .i64 0,.int .i64 0] 230)));clear eB eH;generalize W.alloc (.cells #[.int .i64 0,.int .i64 0,.int .i64 0,.int .u64 0,.int .u32 0,.int .i64 0,.int .i64 0] 230)=W1 at *;clear hsz nW;obtain ⟨k0,k1,k2,k3⟩:=fh.out.q;go_wp2_with fail
 go_loopw [6] (fun iv V=>∃ k:Nat,iv=.int .i64 ((k:Int)-1)∧k≤n∧Hid (xU (ep L) key k=F)∧Hid (Below W1.heap.size W1 V)) (fun iv _=>(intOf iv+1).toNat)
 case atStart=>exact ⟨n,rfl,ag _,HF,zh (aj _ _)⟩
 obtain ⟨k,rfl,hk,rE,HB⟩:=hrel;have l6:=zh (zA eP.out HB.out);have hx:=fh.out.below HB.out;clear k0 k1 k2 k3;obtain ⟨k0,k1,k2,k3⟩:=hx.q;clear hx
 by_cases hlk:0<k
 ·
  obtain ⟨m,rfl⟩:∃ m,k=m+1:=⟨k-1,by omega⟩
  have em:((m+1:Nat):Int)-1=(m:Int):=by omega
  rw[em];clear em
  as_aux_lemma =>
  have i1:(0:Int)≤(m:Int):=by omega
  have i2:¬ (m:Int)<0:=by omega
  have i3:(m:Int)<(n:Int):=by omega
  have i4:m<n:=by omega
  go_wp2_with fail;refine (fQ.out _ l6.out).mono ?_;rintro e w1 ⟨rfl,hb1⟩;have nL:=zh (HB.out.trans (hb1.mono HB.out.size));clear k0 k1 k2 k3 hb1 HB l6;have lX:=zh (zA eP.out nL.out);have HP:=zh (mZ.out.below nL.out);have k3:=(fh.out.below nL.out).c3;have hR:=HR.out.below lX.out;obtain ⟨b,off,rfl,hg⟩:=hR.at (show m<n by omega);have sB:=zh hg;have jS:=zh (hR.m _ (G5.out m (by omega)));have pN:=zh (Gw.out _ (G5.out m (by omega)));have hon:=NB.out m;rw[rE.out] at hon;clear hR hg rE;generalize pat L m=p at *;obtain ⟨⟨num,rev,md,sz,⟨f,LV,GA⟩⟩,s⟩:=p;dsimp only at *;have AU:=zh (qD s ⟨f,LV,GA⟩ key w1 jS.out pN.out);clear jS pN;obtain ⟨g0,g1,g2,g3,g4,g5,g6,g7,g8,g9,g10,g11,g12,g13⟩:=sB.out.q;dsimp only at g0 g1 g2 g3 g4 g5 g6 g7 g8 g9 g10 g11 g12 g13
  cases Bp:zg ⟨f,LV,GA⟩ key with
  |none =>
   rw[Bp] at AU hon;have Cp:=zh (show xU (ep L) key m=F from hon.symm);clear Bp hon;have IJ:=zh (show Calls Tryz.prog 124 #[yF s LV GA,.int .u64 key] w1 fun e w'=>e=.returned (.tuple #[.agg #[.int .u64 0,.int .u32 0,.int .i64 0,.int .i64 0],.bool false])∧Below w1.heap.size w1 w' from AU.out);clear AU;go_wp2_with fail;refine IJ.out.mono ?_;rintro e w2 ⟨rfl,hb2⟩;have hA:=(aj w2.heap.size w2).alloc (ag _) (.cells #[.int .u64 0,.int .u32 0,.int .i64 0,.int .i64 0] 49);have hb3:=hb2.trans (hA.mono hb2.size);have eM:=zh (nL.out.trans (hb3.mono nL.out.size));clear hA hb3 hb2 g0 g1 g2 g3 g4 g5 g6 g7 g8 g9 g10 g11 g12 g13 k3;go_wp2_with fail;exact ⟨⟨m,by go_num,by omega,Cp,eM⟩,by simp[intOf]⟩
  |some x =>
   rw[Bp] at AU hon;obtain ⟨xk,xc,xo,xz⟩:=x;have Cp:=zh (show F=⟨num,md,rev,⟨xk,xc,xo,xz⟩,m⟩::xU (ep L) key m from hon);clear Bp hon;have IJ:=zh (show Calls Tryz.prog 124 #[yF s LV GA,.int .u64 key] w1 fun e w'=>e=.returned (.tuple #[.agg #[.int .u64 xk,.int .u32 xc,.int .i64 xo,.int .i64 xz],.bool true])∧Below w1.heap.size w1 w' from AU.out);clear AU;go_wp2_with fail;refine IJ.out.mono ?_;rintro e w2 ⟨rfl,hb2⟩;have hA:=(aj w2.heap.size w2).alloc (ag _) (.cells #[.int .u64 xk,.int .u32 xc,.int .i64 xo,.int .i64 xz] 49);have hb3:=hb2.trans (hA.mono hb2.size);have eM:=zh (lX.out.trans (hb3.mono lX.out.size));have ni:=zh (HP.out.below hb3);have NG:=Below.keeps hb3 _ _ g0;have U6:=Below.keeps hb3 _ _ g1;have U7:=Below.keeps hb3 _ _ g2;have NH:=Below.keeps hb3 _ _ k3
   have x0:(w2.alloc (.cells #[.int .u64 xk,.int .u32 xc,.int .i64 xo,.int .i64 xz] 49)).cell? ⟨w2.heap.size,0,none⟩=some (.int .u64 xk):=by simp
   have x1:(w2.alloc (.cells #[.int .u64 xk,.int .u32 xc,.int .i64 xo,.int .i64 xz] 49)).cell? ⟨w2.heap.size,1,none⟩=some (.int .u32 xc):=by simp
   have x2:(w2.alloc (.cells #[.int .u64 xk,.int .u32 xc,.int .i64 xo,.int .i64 xz] 49)).cell? ⟨w2.heap.size,2,none⟩=some (.int .i64 xo):=by simp
   have x3:(w2.alloc (.cells #[.int .u64 xk,.int .u32 xc,.int .i64 xo,.int .i64 xz] 49)).cell? ⟨w2.heap.size,3,none⟩=some (.int .i64 xz):=by simp
   clear hA hb3 hb2 g0 g1 g2 g3 g4 g5 g6 g7 g8 g9 g10 g11 g12 g13 k3;go_upto_region 6 with fail;generalize w2.alloc (.cells #[.int .u64 xk,.int .u32 xc,.int .i64 xo,.int .i64 xz] 49)=w3 at *;have z0:=ni.out.c0;have z1:=ni.out.c1;have z2:=ni.out.c2;have z3:=ni.out.c3;have z4:=ni.out.c4;have z5:=ni.out.c5;have z6:=ni.out.c6;have hf:=ni.out.f;have hlz:w.heap.size+1<w3.heap.size:=ni.out.lt;have rX:=zh (ni.out.below (zi (aj _ _)));have IK:=zh (zi eM.out);have hdr:=zi (aj w3.heap.size w3);replace NG:=Below.keeps hdr _ _ NG;replace U6:=Below.keeps hdr _ _ U6;replace U7:=Below.keeps hdr _ _ U7;replace NH:=Below.keeps hdr _ _ NH;replace x0:=Below.keeps hdr _ _ x0;replace x1:=Below.keeps hdr _ _ x1;replace x2:=Below.keeps hdr _ _ x2;replace x3:=Below.keeps hdr _ _ x3;clear hdr z0 z1 z2 z3 z4 z5 z6 hf;have z0:=rX.out.c0;have z1:=rX.out.c1
   have z2:=rX.out.c2;have z3:=rX.out.c3;have z4:=rX.out.c4;have z5:=rX.out.c5;have z6:=rX.out.c6;have hf:=rX.out.f;refine wp_region_still_tail 19 (by kernel_rfl) (by kernel_rfl) ?_;simp only[dK,List.take_zero,List.drop_succ_cons,List.drop_zero];change wpStill Tryz.prog _ (World.drew _) _ _ _
   iterate 19 still_step
   refine wpStill_nil ?_;change wpList _ _ _ _ _ (World.drew _);clear ni eM;clear hlz;have hlz:w.heap.size+1<(World.drew w3).heap.size:=rX.out.lt;generalize World.drew w3=w9 at *;clear NG U6 U7 NH x0 x1 x2 x3 sB IJ;refine zB5 rfl 230 #[(0,.tmp 38),(1,.tmp 44),(2,.tmp 50),(3,.tmp 51)] rfl [(0,.int .i64 num),(1,.int .i64 md),(2,.int .i64 rev),(3,.agg #[.int .u64 xk,.int .u32 xc,.int .i64 xo,.int .i64 xz])] #[.int .i64 num,.int .i64 md,.int .i64 rev,.int .u64 xk,.int .u32 xc,.int .i64 xo,.int .i64 xz] (by first|(simp[go_sem];done)|(simp[Act.eval];done)) (zIT _ _ _ _ _ _ _) ?_;have GM:=zh rX.out.there;clear z0 z1 z2 z3 z4 z5 z6 hf;refine wpList_store_mid rfl 230 (.tmp 4) (.tmp 52) rfl (w.heap.size+1) 0 (IG (⟨num,md,rev,⟨xk,xc,xo,xz⟩,m⟩:jK)) rfl rfl GM.out zLy (zKM _) ?_;rw[zIA];have U8:=hlz
   have hby:=rX.out.all (⟨num,md,rev,⟨xk,xc,xo,xz⟩,m⟩:jK);have eD:=zh (zD (B:=w.heap.size) (b:=w.heap.size+1) (by omega) (y_ (⟨num,md,rev,⟨xk,xc,xo,xz⟩,m⟩:jK)) IK.out);generalize pts w9 (w.heap.size+1) (y_ (⟨num,md,rev,⟨xk,xc,xo,xz⟩,m⟩:jK))=wq at *;clear GM rX IK HP mZ eP fh nL lX HR fQ hlz U8;have c0:wq.cell? ⟨w.heap.size+1,0,none⟩=some (.int .i64 num):=hby.c0;have c1:wq.cell? ⟨w.heap.size+1,1,none⟩=some (.int .i64 md):=hby.c1;have c2:wq.cell? ⟨w.heap.size+1,2,none⟩=some (.int .i64 rev):=hby.c2;have c3:wq.cell? ⟨w.heap.size+1,3,none⟩=some (.int .u64 xk):=hby.c3;have c4:wq.cell? ⟨w.heap.size+1,4,none⟩=some (.int .u32 xc):=hby.c4;have c5:wq.cell? ⟨w.heap.size+1,5,none⟩=some (.int .i64 xo):=hby.c5;have c6:wq.cell? ⟨w.heap.size+1,6,none⟩=some (.int .i64 xz):=hby.c6;clear hby
   go_wp2_with fail
   have hend:=zh (show Ending.returned (.tuple #[.agg #[.int .i64 num,.int .i64 md,.int .i64 rev,.int .u64 xk,.int .u32 xc,.int .i64 xo,.int .i64 xz],.bool true])=.returned (.tuple #[BZ (F.headD yU),.bool (!F.isEmpty)]) by
    rw[Cp.out];rfl)
   clear Cp;have hBz:=eD.out;exact au (v:=.tuple #[.agg #[.int .i64 num,.int .i64 md,.int .i64 rev,.int .u64 xk,.int .u32 xc,.int .i64 xo,.int .i64 xz],.bool true]) (zIZ _ _ _ _ _ _ _ _ _ _ _ rfl rfl c0 c1 c2 c3 c4 c5 c6) rfl ⟨hend.out,hBz⟩
 obtain rfl:k=0:=by omega
 have i1:¬ (0:Int)≤((0:Nat):Int)-1:=by omega
 have i2:((0:Nat):Int)-1<0:=by omega
 have Cp:=zh (show F=[] from rE.out.symm);have HP:=zh (mZ.out.below HB.out);clear rE;have z0:=HP.out.c0;have z1:=HP.out.c1;have z2:=HP.out.c2;have z3:=HP.out.c3;have z4:=HP.out.c4;have z5:=HP.out.c5;have z6:=HP.out.c6;have hf:=HP.out.f;have hlz:w.heap.size+1<wr.heap.size:=HP.out.lt;go_wp2_with fail;rw[Cp.out];change bodyPost _ _ _ _ _ (pts wr (w.heap.size+1) (y_ yU));have hby:=HP.out.all yU;have eD:=zh (zD (B:=w.heap.size) (b:=w.heap.size+1) (by omega) (y_ yU) l6.out);generalize pts wr (w.heap.size+1) (y_ yU)=V at *;refine au (v:=.tuple #[BZ yU,.bool false]) (by simp[results,Tryz.results155,go_sem,hby.c0,hby.c1,hby.c2,hby.c3,hby.c4,hby.c5,hby.c6]) rfl ⟨rfl,eD.out⟩
theorem zE7 (i l:Int) (r:Bool) (a:Option Addr) (n c:Nat) (L:List GP) (w:World) (h:fD w (.slice a n c) L) (hs:∀ p∈L,∀ j,j<8→(p.1.m.st j).length≤10000) (key:Int) :
  Calls Tryz.prog 155 #[zO i l r a n c,.int .u64 key] w fun e w'=>e=.returned (.tuple #[BZ ((yA ⟨i,l,r,ep L⟩ key).headD yU),.bool (!(yA ⟨i,l,r,ep L⟩ key).isEmpty)])∧Below w.heap.size w w':=by
 cases hv:zY ⟨i,l,r,ep L⟩
 ·
  exact zHF i l r a n c L w h hs hv key
 exact zFJ i l r a n c L w h hs hv key
theorem zLY (s:eX) (a:Option Addr) (n c:Nat) (L:List GP) (W:World) (hr:fD W (.slice a n c) L) (hg:ep L=s.dY) (hl:fu 1000 s.dY) (key:Int) :
  Calls Tryz.prog 155 #[zO s.id s.lim s.ro a n c,.int .u64 key] W fun e w'=>e=.returned (.tuple #[BZ ((yA s key).headD yU),.bool (!(yA s key).isEmpty)])∧Below W.heap.size W w':=by
 have h:=zE7 s.id s.lim s.ro a n c L W hr (xu (hg▸hl) (by decide)) key;obtain ⟨i,l,r,g⟩:=s;dsimp only at hg h ⊢;subst hg;exact h
theorem zK3 (s:eX) (a:Option Addr) (n c:Nat) (L:List GP) (W:World) (hr:fD W (.slice a n c) L) (hg:ep L=s.dY) (hl:fu 1000 s.dY) (key:Int) :
  Calls Tryz.prog 156 #[zO s.id s.lim s.ro a n c,.int .u64 key] W fun e w'=>∃ v',e=.returned v'∧gF w' W.heap.size v' (zS s key)∧Below W.heap.size W w':=by
 have h:=zFF s.id s.lim s.ro a n c L W hr (xu (hg▸hl) (by decide)) key;obtain ⟨i,l,r,g⟩:=s;dsimp only at hg h ⊢;subst hg;exact h
theorem fc.Oq {W W':World} {B B' sz n:Nat} {T:TypeId} {v:Value} {xs:List Value} (h:fc B W W') (ho:W.ownsRow B' T sz v n xs) (hT:T∉mT):W'.ownsRow B' T sz v n xs:=
 ⟨ho.1,ho.2.imp id fun ⟨g,cap,cur,e,hb,hg,r⟩=>⟨g,cap,cur,e,hb,h.k g cur T (0,0) hg hT,r⟩⟩
theorem qp {S:eX} {P:fB} {key:Int} {l:List Int} (h:Kp S P.t) (hl:∀ x∈l,∃ r,r+1<S.dY.length∧x=(eV S.dY r).num):∀ k,k≤l.length→Kp S (zx P key l k).t
 |0,_=>h
 |k+1,hk=>by
  rw[wZ P key l k (by omega)];have ih:=qp (key:=key) h hl k (by omega);obtain ⟨r,hr,e⟩:=hl _ (ko (l:=l) (j:=k) (by omega));have hr2:r+1<(zx P key l k).t.dY.length:=by rw[ih.len];exact hr
  have e2:(yK key (zx P key l k) (nR l k)).t=wi (zx P key l k).t r (vz (eV (zx P key l k).t.dY r) key):=by
   show (xW _ _ [key]).1=_
   rw[e,← ih.num r (by omega),uW ih.v hr2]
  rw[e2];exact ih.set (fit_drop ih.v hr2 key)
theorem zEE {S:eX} {P:fB} {key:Int} {l:List Int} (h:Kp S P.t) (hl:∀ x∈l,∃ r,r+1<S.dY.length∧x=(eV S.dY r).num) {k:Nat} (hk:k<l.length):∃ r,r+1<(zx P key l k).t.dY.length∧nR l k=(eV (zx P key l k).t.dY r).num:=by
 have ih:=qp (key:=key) h hl k (by omega);obtain ⟨r,hr,e⟩:=hl _ (ko (l:=l) (j:=k) hk);exact ⟨r,by rw[ih.len];exact hr,by rw[ih.num r (by omega)];exact e⟩
theorem zFf {w:World} {B b:Nat} {tk:Int} {P:fB} (hM:l7 w B b tk P) (hB:B≤w.heap.size) (hl:fu 700 P.t.dY) (hv:eT P.t) (Oc:sI P) (hby:0≤P.bytes∧P.bytes≤1000000000) (hel:P.needs.length≤900) (M:Nat) (Aw:M≤90000) (hsk:ou M P.eu) (J9:P.res.length<16) (q:Rq) (hq1:q.kind=2) (rt rk key ck:Int) (da:Option Addr) (dn dc:Nat) (rY:(q.key:Int)=key) (A6:(q.ck:Int)=ck) :
  Calls Tryz.prog 111 #[.pointer (some ⟨b,0,none⟩),CP rt rk key ck (.slice da dn dc)] w fun e w'=>e=.returned (.bool (zm P q).1)∧l7 w' B b tk (zm P q).2∧fc B w w':=by
 have hq:=hq1;have oH:¬ P.res.length=16:=by omega
 obtain ⟨ga,gn,gc,L,kv,ks,nv,es,rv,hlo,hP,hR⟩:=hM;have E4:es.length≤1000:=by
  have h:=aO List.length hR.nn;rw[aH] at h;omega
 have sj:=zh (fun W (hb:Below w.heap.size w W)=>zLY P.t ga gn gc L W (hR.g.rd.below hb) hR.gg (hl.mono (by decide)) key);have Lj:=zh (fun W (hb:Below w.heap.size w W)=>zK3 P.t ga gn gc L W (hR.g.rd.below hb) hR.gg (hl.mono (by decide)) key);have hkN:fR w B (.slice none 0 0) (vj q).data:=show g_ w B 5 1 (.slice none 0 0) 0 [] from g_.own (aT w B 5 1);have mG:=zh (fun W (hb:Below w.heap.size w W)=>zCB (w:=W) (B:=B) (b:=b) (tk:=tk) (P:=P) hlo (hP.below hb) (hR.below hb) (hl.mono (by decide)) (ak hB hb.size) (vj q) none 0 0 (show fR W B _ _ from g_.below hkN hb) rfl (by decide) E4 hby);have hkey:((vj q).key:Int)=key:=rY;have hck:((vj q).ck:Int)=ck:=A6;have hdel:(vj q).del=true:=rfl;rw[hkey,hck,hdel] at mG;have CU:=zh hP;have Er:=zh Oc
 have Ot:=zh (fun W (hb:Below w.heap.size w W)=>show l7 W B b tk P from ⟨ga,gn,gc,L,kv,ks,nv,es,rv,hlo,hP.below hb,hR.below hb⟩);have fU:b<w.heap.size:=hP.lt;have HE:=zh (show yd P.t q=if (yA P.t key).isEmpty=false∧((yA P.t key).headD yU).it.ck=ck then 0 else 6 by unfold yd;rw[rY,A6]);have HT:=zh (show wC P.t q.key=(!(yA P.t key).isEmpty&&decide (((yA P.t key).headD yU).mode=1)) by unfold wC;rw[rY]);have Bd:=zh (show we P q=(zS P.t key).foldl (yK key) (if wC P.t q.key=true then xH P (vj q) else P) by rw[← zJW hv];unfold UR;rw[rY]);have QL:=zh (show ∀ x∈zS P.t key,∃ r,r+1<P.t.dY.length∧x=(eV P.t.dY r).num from fun _ hx=>UN hv hx);have U9:=zh (show wC P.t q.key=true→Kp P.t (xH P (vj q)).t from fun h=>kK hv (UP ((ud hv _).1 h)))
 have MI:=zh (show fu 701 (xH P (vj q)).t.dY from kx (s:=P.t) (g:=(xE (wn P.t).2 [vj q]).2) (K:=701) (hl.mono (by omega)) (fun i hi=>qK (kO hl) i hi));have Jo:=zh hv;have HLl:=zh hl;have pN:=zh hsk;generalize (yA P.t key).headD yU=Y at *;obtain ⟨fo,hfo⟩:∃ fo,(!(yA P.t key).isEmpty)=fo:=⟨_,rfl⟩
 rw[hfo] at sj HT;have Bt:=zh (show yd P.t q=if fo=true∧Y.it.ck=ck then 0 else 6 by rw[HE.out,← hfo];simp);clear hfo HE rY A6 hkey hck hdel hkN;obtain ⟨yg,ym,yr,⟨yk,yc,yo,yz⟩,ya⟩:=Y;dsimp only[BZ,IG] at sj Bt HT;clear hP hR hl hv Oc E4 hsk
 go_enter Tryz.func111,Tryz.ntmps111
 go_upto_region 1 with fail;change Code.wp _ _ _ _ (w.alloc (.cells #[.int .i64 rt,.int .i64 rk,.int .u64 key,.int .u32 ck,.slice da dn dc] 63));have ew:=(aj w.heap.size w).alloc (ag _) (.cells #[.int .i64 rt,.int .i64 rk,.int .u64 key,.int .u32 ck,.slice da dn dc] 63);have HX:=zh (dZ.new w #[.int .i64 rt,.int .i64 rk,.int .u64 key,.int .u32 ck,.slice da dn dc] 63);have l6:=zh ew;have AE:=zh (CU.out.below ew);clear ew;generalize w.alloc (.cells #[.int .i64 rt,.int .i64 rk,.int .u64 key,.int .u32 ck,.slice da dn dc] 63)=w1 at *;generalize nH:w.heap.size=b3 at *;have hz1:w.heap.size≤b3:=by omega
 have hz2:b3≤w.heap.size:=by omega
 clear nH;have h13:b3≤w1.heap.size:=ak hz2 l6.out.size
 go_cut [5,6] (fun vb ve wx=>∃ b,vb=.pointer (some ⟨b,0,none⟩)∧ve=.bool fo∧Hid (dZ wx b ([(0,.int .i64 yg),(1,.int .i64 ym),(2,.int .i64 yr),(3,.int .u64 yk),(4,.int .u32 yc),(5,.int .i64 yo),(6,.int .i64 yz)].foldl (fun cs p=>cs.setIfInBounds p.1 p.2) #[.int .i64 0,.int .i64 0,.int .i64 0,.int .u64 0,.int .u32 0,.int .i64 0,.int .i64 0]) 230)∧Hid (Below w1.heap.size w1 wx))
 case first =>
  refine ye [eR (.pointer (some ⟨b,0,none⟩)),eR (.pointer (some ⟨b,0,none⟩)),eR (.pointer (some ⟨b,0,none⟩)),eR (zO P.t.id P.t.lim P.t.ro ga gn gc),eR (.pointer (some ⟨b3,2,none⟩)),eR (.int .u64 key),eR (.tuple #[.agg #[.int .i64 yg,.int .i64 ym,.int .i64 yr,.int .u64 yk,.int .u32 yc,.int .i64 yo,.int .i64 yz],.bool fo]),eR (.tuple #[.agg #[.int .i64 yg,.int .i64 ym,.int .i64 yr,.int .u64 yk,.int .u32 yc,.int .i64 yo,.int .i64 yz],.bool fo]),eR (.agg #[.int .i64 yg,.int .i64 ym,.int .i64 yr,.int .u64 yk,.int .u32 yc,.int .i64 yo,.int .i64 yz]),eR (.bool fo),ZU 230 w1.heap.size] [10] 85 9 (by kernel_rfl) (by kernel_rfl) rfl rfl (by decide) (by rfl) (by kernel_rfl) (fun f=>by simp[fF,zT,Act.put];exact rfl) ?_ ?_ ?_
  ·
   refine ⟨?_,?_,?_,?_,?_,?_,?_,?_,?_,?_,?_,trivial⟩
   ·
    intro f w2 hb hd;clear hd;dsimp only;go_wp2_with fail;exact pS rfl (by simp)
   ·
    intro f w2 hb hd;have d0:f 0=(.pointer (some ⟨b,0,none⟩)):=hd 0 (by kernel_rfl);clear hd;dsimp only;rw[d0];go_wp2_with fail;exact pS rfl (by simp)
   ·
    intro f w2 hb hd;have d1:f 1=(.pointer (some ⟨b,0,none⟩)):=hd 1 (by kernel_rfl);clear hd;dsimp only;rw[d1];go_wp2_with fail;exact pS rfl (by simp)
   ·
    intro f w2 hb hd;have d2:f 2=(.pointer (some ⟨b,0,none⟩)):=hd 2 (by kernel_rfl);clear hd;dsimp only;rw[d2];have hx:=AE.out.below hb;have q0:=hx.cell (i:=0) rfl;have q1:=hx.cell (i:=1) rfl;have q2:=hx.cell (i:=2) rfl;have q3:=hx.cell (i:=3) rfl;clear hx;go_wp2_with fail;exact pS rfl (by simp)
   ·
    intro f w2 hb hd;clear hd;dsimp only;go_wp2_with fail;exact pS rfl (by simp)
   ·
    intro f w2 hb hd;have d4:f 4=(.pointer (some ⟨b3,2,none⟩)):=hd 4 (by kernel_rfl);clear hd;dsimp only;rw[d4];have q2:=(HX.out.below hb).cell (i:=2) rfl;go_wp2_with fail;exact pS rfl (by simp)
   ·
    intro f w2 hb hd;have d3:f 3=(zO P.t.id P.t.lim P.t.ro ga gn gc):=hd 3 (by kernel_rfl);have d5:f 5=(.int .u64 key):=hd 5 (by kernel_rfl);clear hd;dsimp only;rw[d3];rw[d5];go_wp2_with fail;refine (sj.out w2 (l6.out.trans (hb.mono (ak hz2 l6.out.size)))).mono ?_;rintro e w9 ⟨rfl,gI⟩;go_wp2_with fail;exact pT rfl (by simp) gI
   ·
    intro f w2 hb hd;have d6:f 6=(.tuple #[.agg #[.int .i64 yg,.int .i64 ym,.int .i64 yr,.int .u64 yk,.int .u32 yc,.int .i64 yo,.int .i64 yz],.bool fo]):=hd 6 (by kernel_rfl);clear hd;dsimp only;rw[d6];go_wp2_with fail;exact pS rfl (by simp)
   ·
    intro f w2 hb hd;have d7:f 7=(.tuple #[.agg #[.int .i64 yg,.int .i64 ym,.int .i64 yr,.int .u64 yk,.int .u32 yc,.int .i64 yo,.int .i64 yz],.bool fo]):=hd 7 (by kernel_rfl);clear hd;dsimp only;rw[d7];go_wp2_with fail;exact pS rfl (by simp)
   ·
    intro f w2 hb hd;have d7:f 7=(.tuple #[.agg #[.int .i64 yg,.int .i64 ym,.int .i64 yr,.int .u64 yk,.int .u32 yc,.int .i64 yo,.int .i64 yz],.bool fo]):=hd 7 (by kernel_rfl);clear hd;dsimp only;rw[d7];go_wp2_with fail;exact pS rfl (by simp)
   intro f w2 hb hd;clear hd;dsimp only;have rR:=hb.size;have Du:=dZ.new w2 #[.int .i64 0,.int .i64 0,.int .i64 0,.int .u64 0,.int .u32 0,.int .i64 0,.int .i64 0] 230;go_wp2_with fail;exact ⟨rfl,(aj _ _).alloc (ag _) _,fun t ht=>by injection ht with ht;subst ht;exact ⟨⟨_,rfl,rR,Du⟩,fun _=>⟨ag _,by simp[blk]⟩⟩⟩
  ·
   intro f w5 hb hd jw;clear jw;have d8:f 8=(.agg #[.int .i64 yg,.int .i64 ym,.int .i64 yr,.int .u64 yk,.int .u32 yc,.int .i64 yo,.int .i64 yz]):=hd 8 (show 8<11 by decide);have d9:f 9=(.bool fo):=hd 9 (show 9<11 by decide);obtain ⟨EU,d10,B8,fP⟩:=show ∃ b,f 10=.pointer (some ⟨b,0,none⟩)∧w1.heap.size≤b∧dZ w5 b #[.int .i64 0,.int .i64 0,.int .i64 0,.int .u64 0,.int .u32 0,.int .i64 0,.int .i64 0] 230 from hd 10 (show 10<11 by decide)
   try dsimp only
   rw[d8,d9,d10];clear hd d8 d9 d10;have fV:=zh (zD (B:=w1.heap.size) (b:=EU) B8 [(0,.int .i64 yg),(1,.int .i64 ym),(2,.int .i64 yr),(3,.int .u64 yk),(4,.int .u32 yc),(5,.int .i64 yo),(6,.int .i64 yz)] hb);have HY:=zh (dZ.sets [(0,.int .i64 yg),(1,.int .i64 ym),(2,.int .i64 yr),(3,.int .u64 yk),(4,.int .u32 yc),(5,.int .i64 yo),(6,.int .i64 yz)] fP);have H0:=zh fP;have x0:=fP.cell (i:=0) rfl;have x1:=fP.cell (i:=1) rfl;have x2:=fP.cell (i:=2) rfl;have x3:=fP.cell (i:=3) rfl;have x4:=fP.cell (i:=4) rfl;have x5:=fP.cell (i:=5) rfl;have x6:=fP.cell (i:=6) rfl;have xf:=fP.frozen;clear fP hb;generalize f 0=rI,f 1=rJ,f 2=pY,f 3=pZ,f 4=p_,f 5=q_,f 6=rK,f 7=B9;clear f;change wpList _ _ _ (_::_::[]) _ _;go_wp2_with fail;go_meet
   case rel=>exact ⟨EU,rfl,rfl,HY,fV⟩
  intro f w5 hb hd jw;clear jw;have d7:f 7=(.tuple #[.agg #[.int .i64 yg,.int .i64 ym,.int .i64 yr,.int .u64 yk,.int .u32 yc,.int .i64 yo,.int .i64 yz],.bool fo]):=hd 7 (show 7<11 by decide) (show 7≠9 by decide);have d8:f 8=(.agg #[.int .i64 yg,.int .i64 ym,.int .i64 yr,.int .u64 yk,.int .u32 yc,.int .i64 yo,.int .i64 yz]):=hd 8 (show 8<11 by decide) (show 8≠9 by decide);obtain ⟨EU,d10,B8,fP⟩:=show ∃ b,f 10=.pointer (some ⟨b,0,none⟩)∧w1.heap.size≤b∧dZ w5 b #[.int .i64 0,.int .i64 0,.int .i64 0,.int .u64 0,.int .u32 0,.int .i64 0,.int .i64 0] 230 from hd 10 (show 10<11 by decide) (show 10≠9 by decide)
  try dsimp only
  rw[d7,d8,d10];clear hd d7 d8 d10;have fV:=zh (zD (B:=w1.heap.size) (b:=EU) B8 [(0,.int .i64 yg),(1,.int .i64 ym),(2,.int .i64 yr),(3,.int .u64 yk),(4,.int .u32 yc),(5,.int .i64 yo),(6,.int .i64 yz)] hb);have HY:=zh (dZ.sets [(0,.int .i64 yg),(1,.int .i64 ym),(2,.int .i64 yr),(3,.int .u64 yk),(4,.int .u32 yc),(5,.int .i64 yo),(6,.int .i64 yz)] fP);have H0:=zh fP;have x0:=fP.cell (i:=0) rfl;have x1:=fP.cell (i:=1) rfl;have x2:=fP.cell (i:=2) rfl;have x3:=fP.cell (i:=3) rfl;have x4:=fP.cell (i:=4) rfl;have x5:=fP.cell (i:=5) rfl;have x6:=fP.cell (i:=6) rfl;have xf:=fP.frozen;clear fP hb;generalize f 0=rI,f 1=rJ,f 2=pY,f 3=pZ,f 4=p_,f 5=q_,f 6=rK,f 9=CQ;clear f;change wpList _ _ _ (_::_::_::[]) _ _;go_wp2_with fail;go_meet
  case rel=>exact ⟨EU,rfl,rfl,HY,fV⟩
 obtain ⟨b5,rfl,rfl,HY,fV⟩:=hcut;generalize wc=w2 at *;have y1:=HY.out.cell (i:=1) (u:=.int .i64 ym) (by simp);have y4:=HY.out.cell (i:=4) (u:=.int .u32 yc) (by simp);replace HX:=zh (HX.out.below fV.out);replace AE:=zh (AE.out.below fV.out);have o8:=zh (l6.out.trans (fV.out.mono h13));have Ai:B≤w2.heap.size:=ak (ak hB (ak hz2 l6.out.size)) fV.out.size;have x3:=HX.out.cell (i:=3) rfl;clear fV l6 sj;obtain ⟨T,hT⟩:∃ T:Bool,T=(!fo||yc != ck):=⟨_,rfl⟩
 have Ka:yd P.t q=if T=true then 6 else 0:=by
  rw[Bt.out,hT]
  cases fo
  ·
   simp
  by_cases e:yc=ck<;>simp[e]
 have QM:=zh hT;have IW:=zh Ka;clear hT Ka Bt;go_upto_region 2 with fail
 go_cut [28] (fun v wx=>v=.bool T∧wx=w2)
 case first =>
  cases fo
  ·
   have J8:T=true:=by rw[QM.out];rfl
   subst J8;go_wp2_with fail;go_meet
   case rel=>exact ⟨rfl,rfl⟩
  have J8:T=(yc != ck):=by rw[QM.out];rfl
  go_wp2_with fail;go_meet
  case rel=>exact ⟨by rw[J8],rfl⟩
 obtain ⟨rfl,hwc⟩:=hcut;generalize wc=UU at *;replace hwc:=hwc.symm;subst hwc;clear x3 y4
 cases T
 rotate_left
 ·
  have hpl:=qy (q:=q) (P:=P) oH hq (by rw[IW.out];rfl);have HF:=zh hpl;have HM:=zh (Ot.out w2 o8.out);have HB:=zh (show fc B w w2 from fc.of (o8.out.mono hz1) (ak hB hz2));clear hpl Lj mG Bd QL U9 MI y1;go_upto_region 3 with fail;obtain ⟨iI,iJ,gc',L',rh,nO,nG,es',DG,jh,rj,rq⟩:=HM.out;obtain ⟨Oe,Og,ru,E6,E7,_⟩:=zH rq.r;subst ru;have q8:=rj.cell (i:=8) rfl;have ew:=(aj w2.heap.size w2).alloc (ag _) (.cells #[.int .i64 6] 39);have oh:=zh (rj.below ew);have jW:=zh (rq.below ew);have mj:=zh (HB.out.step ew Ai);have gR:=zh jW.out.r;have o7:=ak Ai ew.size;clear ew rj rq HM HB
  go_wp2_with (at_builtin;go_must (refine zP (n:=P.res.length) (m:=1) rfl (.tmp 34) (.tmp 35) 69 rfl qt B rfl gR.out rfl (Rd.jD w2.heap.size w2 rfl 1 [.int .i64 6] 39 1 rfl (by decide)) (fun u hu=>by simp only[aX,aY,aZ] at hu;rw[hu];rfl) (by unfold maxLen;omega) (by omega) o7 ?_);intro v3 w3 ei eL hv3;clear hv3;obtain ⟨oa,oc,ev,_,_,_⟩:=zH ei;subst ev;have gO:=oh.out.eY (fA.row gR.out eL (ag B)) (by decide);have c8:=gO.cell (i:=8) rfl;have f8:=gO.frozen 8);have jB:gw w3 (w3.setCell ⟨b,8,none⟩ (.slice oa (P.res.length+1) oc)) B b 197:=gw.pts jh ⟨_,_,gO⟩ [(8,.slice oa (P.res.length+1) oc)];have mH:=zh ((jW.out.res 6 eL ei).1.gK jB)
  have od:=zh (show AB (w3.setCell ⟨b,8,none⟩ (.slice oa (P.res.length+1) oc)) b P.t.id P.t.lim P.t.ro iI iJ gc' P.ey tk rh nG (.slice oa (P.res.length+1) oc) P.bytes from (by have h:=gO.set 8 (.slice oa (P.res.length+1) oc);rw[Ln] at h;exact h));have i_:=zh ((mj.out.own gR.out o7 eL (by decide)).pts jh [(8,.slice oa (P.res.length+1) oc)] ⟨_,_,gO⟩ (by decide));clear ei eL gO jB c8 f8 q8;go_wp2_with fail;go_ret;exact ⟨by rw[HF.out];try rfl,by rw[HF.out];exact ⟨iI,iJ,gc',L',rh,nO,nG,es',_,jh,od.out,mH.out⟩,i_.out⟩
 have Ka:yd P.t q=0:=by rw[IW.out];rfl
 have hfo:fo=true:=by
  have h:=QM.out
  cases fo
  ·
   cases h
  rfl
 subst hfo;rw[bV] at HT;clear QM IW;go_upto_region 5 with fail;clear y1
 go_cut [7] (fun vl wx=>∃ oa oc,vl=.slice oa (zS P.t key).length oc∧Hid (gF wx w2.heap.size (.slice oa (zS P.t key).length oc) (zS P.t key))∧Hid (Below w2.heap.size w2 wx))
 case first =>
  refine wB [eR (.pointer (some ⟨b,0,none⟩)),eR (.pointer (some ⟨b,0,none⟩)),eR (.pointer (some ⟨b,0,none⟩)),eR (zO P.t.id P.t.lim P.t.ro ga gn gc),eR (.pointer (some ⟨b3,2,none⟩)),eR (.int .u64 key),Uw w2.heap.size (zS P.t key),Uw w2.heap.size (zS P.t key)] 85 (by kernel_rfl) (by kernel_rfl) (by kernel_rfl) (by rfl) (by kernel_rfl) (fun f=>by simp[fF,zT,Act.put];exact rfl) ?_ ?_
  ·
   refine ⟨?_,?_,?_,?_,?_,?_,?_,?_,trivial⟩
   ·
    intro f w3 hb hd;clear hd;dsimp only;go_wp2_with fail;exact pS rfl (by simp)
   ·
    intro f w3 hb hd;have d0:f 0=(.pointer (some ⟨b,0,none⟩)):=hd 0 (by kernel_rfl);clear hd;dsimp only;rw[d0];go_wp2_with fail;exact pS rfl (by simp)
   ·
    intro f w3 hb hd;have d1:f 1=(.pointer (some ⟨b,0,none⟩)):=hd 1 (by kernel_rfl);clear hd;dsimp only;rw[d1];go_wp2_with fail;exact pS rfl (by simp)
   ·
    intro f w3 hb hd;have d2:f 2=(.pointer (some ⟨b,0,none⟩)):=hd 2 (by kernel_rfl);clear hd;dsimp only;rw[d2];have hx:=AE.out.below hb;have q0:=hx.cell (i:=0) rfl;have q1:=hx.cell (i:=1) rfl;have q2:=hx.cell (i:=2) rfl;have q3:=hx.cell (i:=3) rfl;clear hx;go_wp2_with fail;exact pS rfl (by simp)
   ·
    intro f w3 hb hd;clear hd;dsimp only;go_wp2_with fail;exact pS rfl (by simp)
   ·
    intro f w3 hb hd;have d4:f 4=(.pointer (some ⟨b3,2,none⟩)):=hd 4 (by kernel_rfl);clear hd;dsimp only;rw[d4];have q2:=(HX.out.below hb).cell (i:=2) rfl;go_wp2_with fail;exact pS rfl (by simp)
   ·
    intro f w3 hb hd;have d3:f 3=(zO P.t.id P.t.lim P.t.ro ga gn gc):=hd 3 (by kernel_rfl);have d5:f 5=(.int .u64 key):=hd 5 (by kernel_rfl);clear hd;dsimp only;rw[d3];rw[d5];go_wp2_with fail;refine (Lj.out w3 (o8.out.trans (hb.mono (ak hz2 o8.out.size)))).mono ?_;rintro e w9 ⟨ov,rfl,ho,gI⟩;obtain ⟨qa,qc,rfl,_⟩:=zH ho;have HO:=zh (World.ownsRow.mono ho hb.size);clear ho;go_wp2_with fail;exact ⟨rfl,gI,fun t ht=>by injection ht with ht;subst ht;exact ⟨⟨qa,qc,rfl,HO.out⟩,fun h=>by simp at h⟩⟩
   intro f w3 hb hd;obtain ⟨a6,c6,d6,r6⟩:=show ∃ a c,f 6=.slice a (zS P.t key).length c∧gF w3 w2.heap.size (.slice a (zS P.t key).length c) (zS P.t key) from hd 6 (by kernel_rfl);clear hd;dsimp only;rw[d6];have HO:=zh r6;clear r6;go_wp2_with fail;exact ⟨rfl,aj _ _,fun t ht=>by injection ht with ht;subst ht;exact ⟨⟨a6,c6,rfl,HO.out⟩,fun h=>by simp at h⟩⟩
  intro f w8 hb hA;obtain ⟨oa,oc,e7,d7⟩:=show ∃ a c,f 7=.slice a (zS P.t key).length c∧gF w8 w2.heap.size (.slice a (zS P.t key).length c) (zS P.t key) from hA 7 (show 7<8 by decide);clear hA
  try dsimp only
  rw[e7];clear e7;have HO:=zh d7;have eD:=zh hb;clear d7 hb;generalize f 0=rI,f 1=rJ,f 2=pY,f 3=pZ,f 4=p_,f 5=q_,f 6=rK;clear f;go_wp2_with fail;go_meet
  case rel=>exact ⟨oa,oc,rfl,HO,eD⟩
 obtain ⟨oa,oc,rfl,HO,fV⟩:=hcut;generalize wc=w3 at *;have gy:=zh (o8.out.trans (fV.out.mono (ak hz2 o8.out.size)));have Nr:B≤w2.heap.size:=Ai;have Hs:B≤w3.heap.size:=ak Ai fV.out.size;replace HX:=zh (HX.out.below fV.out);replace HY:=zh (HY.out.below fV.out);have y1:=HY.out.cell (i:=1) (u:=.int .i64 ym) (by simp);have x2:=HX.out.cell (i:=2) rfl;have x3:=HX.out.cell (i:=3) rfl;clear fV Lj AE CU HY;have NB:=zh (fun x (hx:x∈zS P.t key)=>uq hx);have akI:=qg P.t key;generalize zS P.t key=OL at *;generalize w2.heap.size=Bo at *;have hroom:=zCa Er.out 0;rw[show ((eN 0:Nat):Int)=24 by decide] at hroom;have EF:=zh hroom;clear hroom;go_upto_region 6 with fail
 go_cut [59] (fun v wx=>∃ P1:fB,v=.bool (wC P.t q.key&&!uH P 0)∧(wC P.t q.key=true→uH P 0=true→P1=xH P (vj q))∧(¬ (wC P.t q.key=true∧uH P 0=true)→P1=P)∧Hid (l7 wx B b tk P1)∧Hid (fc B w wx)∧Hid (gF wx Bo (.slice oa OL.length oc) OL)∧Hid (dZ wx b3 #[.int .i64 rt,.int .i64 rk,.int .u64 key,.int .u32 ck,.slice da dn dc] 63))
 case first =>
  have HMx:=zh (Ot.out w3 gy.out);have eB:=zh (show fc B w w3 from fc.of (gy.out.mono hz1) (ak hB hz2))
  by_cases hm:ym=1
  ·
   subst hm;have E_:wC P.t q.key=true:=by rw[HT.out];rfl
   have Ou:=zh E_;clear E_;go_wp2_with fail;refine (mG.out w3 gy.out).mono ?_;rintro e w4 ⟨rfl,hmm,hb⟩;have gD:=zh (eB.out.trans hb);have jM:=zh (show gF w4 Bo (.slice oa OL.length oc) OL from hb.Oq HO.out (by decide));have jc:=zh (hb.box HX.out (by decide));have RV:=zh hmm;clear hmm hb x2 x3 y1 HX;go_wp2_with fail;go_meet
   case rel =>
    refine ⟨_,by rw[Ou.out,bV],fun _ h=>?_,fun h=>?_,RV,gD,jM,jc⟩
    ·
     rw[ah h]
    rw[ai (fun h2=>h ⟨Ou.out,h2⟩)]
  have Ou:=zh (show wC P.t q.key=false from by rw[HT.out];exact aD hm);have e1:(ym==1)=false:=by simp[hm]
  go_wp2_with fail;go_meet
  case rel=>exact ⟨P,by rw[Ou.out,dt],fun h=>absurd h (by rw[Ou.out];decide),fun _=>rfl,HMx,eB,HO,HX⟩
 obtain ⟨P1,rfl,iY,Kb,C8,eP,jQ,fh⟩:=hcut;generalize wc=w4 at *;clear x2 x3 y1 HX HO gy
 cases hst:(wC P.t q.key&&!uH P 0)
 ·
  have Cc:Kp P.t P1.t∧P1=(if wC P.t q.key=true then xH P (vj q) else P)∧fu 800 P1.t.dY∧P1.eu=P.eu∧P1.res=P.res:=by
   cases E_:wC P.t q.key
   ·
    rw[Kb (by rw[E_];exact fun h=>absurd h.1 (by decide)),ai (by decide)];exact ⟨Kp.refl Jo.out,rfl,HLl.out.mono (by decide),rfl,rfl⟩
   rw[E_,bV] at hst;have hro:uH P 0=true:=by
    cases h:uH P 0
    ·
     rw[h] at hst;cases hst
    rfl
   rw[iY E_ hro,ah rfl];exact ⟨U9.out E_,rfl,MI.out.mono (by decide),rfl,rfl⟩
  have hpl:=qk (P:=P) oH hq Ka (fun h=>by
   rw[h.1,bV] at hst
   have h2:=EF.out.2 h.2
   rw[h2] at hst;cases hst)
  obtain ⟨k1,k2,k3,k4,k5⟩:=Cc;have hdr:=Bd.out;rw[← k2] at hdr;rw[hdr] at hpl;have HF:=zh hpl;have AW:=zh (tW (P:=P1) (key:=key) (l:=OL) (M:=M) k3 (by rw[k4];exact pN.out) (fun x hx=>NB.out x hx));have pP:=zh (fun k (hk:k≤OL.length)=>qp (key:=key) k1 QL.out k hk);have HNu:=zh (fun k (hk:k<OL.length)=>zEE (key:=key) k1 QL.out hk);have EB:=zh (fun k (hk:k<OL.length)=>wZ P1 key OL k hk);have Dh:=zh (show OL.foldl (yK key) P1=zx P1 key OL OL.length by unfold zx;rw[aS (ag _)]);have oC:=zh k5;rw[Dh.out] at HF;have Ov:=zh (show l7 w4 B b tk (zx P1 key OL 0) from C8.out);clear hdr hpl k1 k2 k3 k4 k5 iY Kb C8 hst Bd QL U9 MI mG HT EF Dh;generalize Qs:OL.length=oN at *;clear Qs;have h8:oN≤8:=by omega
  go_wp2_with fail
  go_loopw [8] (fun iv W=>∃ k:Nat,iv=.int .i64 (k:Int)∧k≤oN∧Hid (l7 W B b tk (zx P1 key OL k))∧Hid (gF W Bo (.slice oa oN oc) OL)∧Hid (dZ W b3 #[.int .i64 rt,.int .i64 rk,.int .u64 key,.int .u32 ck,.slice da dn dc] 63)∧Hid (fc B w W)) (fun iv _=>oN-(intOf iv).toNat)
  case atStart=>exact ⟨0,rfl,aq _,Ov,jQ,fh,eP⟩
  clear Ov jQ fh eP;obtain ⟨k,rfl,hk,nN,HO,HX,HB⟩:=hrel;have Nq:B≤wr.heap.size:=ak (ak hB hz2) HB.out.size
  by_cases hlt:k<oN
  ·
   have j1:(k:Int)<(oN:Int):=by omega
   obtain ⟨G8,JY,_⟩:=AW.out k (by omega);obtain ⟨r,hr1,hr2⟩:=HNu.out k (by omega);have Qi:=pP.out k (by omega);have hsu:=EB.out k (by omega);obtain ⟨og,off,e0,hcell⟩:=gF.atB HO.out hlt;subst e0;have Af:=zh (fun W (hb:Below wr.heap.size wr W)=>zFt (nN.out.below hb) (ak Nq hb.size) G8 Qi.v (M+k) (by omega) JY (nR OL k) key r hr1 hr2);rw[← hsu] at Af;clear G8 JY hr1 hr2 Qi hsu;generalize nR OL k=num at *;go_upto_region 11 with fail;have sJ:=zi (aj wr.heap.size wr);have HOd:=zh (zG HO.out sJ);have U_:=zh (HX.out.below sJ);have IK:=zh (HB.out.step sJ Nq);have Lr:=zh (Af.out _ sJ);have x2:=U_.out.cell (i:=2) rfl;replace hcell:(World.drew wr).cell? ⟨og,off+k,none⟩=some (.int .i64 num):=hcell;clear Af HO HX HB nN sJ;refine wp_region_still_tail 7 (by kernel_rfl) (by kernel_rfl) ?_
   simp only[dK,List.take_zero,List.drop_succ_cons,List.drop_zero];change wpStill Tryz.prog _ (World.drew _) _ _ _
   repeat still_step
   refine wpStill_nil ?_;change wpList _ _ _ _ _ (World.drew _);generalize World.drew wr=y1 at *;go_wp2_with fail;refine Lr.out.mono ?_;rintro e y2 ⟨rfl,hm,hb⟩;have sQ:=zh hm;have gC:=zh (hb.Oq HOd.out (by decide));have fW:=zh (hb.box U_.out (by decide));have eM:=zh (IK.out.trans hb);clear hm hb HOd U_ IK Lr hcell x2;go_wp2_with fail;exact ⟨⟨k+1,by go_num,by omega,sQ,gC,fW,eM⟩,by simp[intOf];omega⟩
  have j1:¬ (k:Int)<(oN:Int):=by omega
  obtain rfl:k=oN:=by omega
  have HM:=nN;have Ai:=Nq;have UY:(zx P1 key OL k).res.length≤16:=by
   rw[(AW.out k (by omega)).2.2.2.2.2,oC.out];omega
  clear nN AW HNu pP EB HO HX;generalize zx P1 key OL k=st at *;go_upto_region 12 with fail;obtain ⟨iI,iJ,gc',L',rh,nO,nG,es',DG,jh,rj,rq⟩:=HM.out;obtain ⟨Oe,Og,ru,E6,E7,_⟩:=zH rq.r;subst ru;have q8:=rj.cell (i:=8) rfl;have ew:=(aj wr.heap.size wr).alloc (ag _) (.cells #[.int .i64 0] 39);have oh:=zh (rj.below ew);have jW:=zh (rq.below ew);have mj:=zh (HB.out.step ew Ai);have gR:=zh jW.out.r;have o7:=ak Ai ew.size;clear ew rj rq HM HB
  go_wp2_with (at_builtin;go_must (refine zP (n:=st.res.length) (m:=1) rfl (.tmp 79) (.tmp 80) 69 rfl qt B rfl gR.out rfl (Rd.jD wr.heap.size wr rfl 1 [.int .i64 0] 39 1 rfl (by decide)) (fun u hu=>by simp only[aX,aY,aZ] at hu;rw[hu];rfl) (by unfold maxLen;omega) (by omega) o7 ?_);intro v3 w3 ei eL hv3;clear hv3;obtain ⟨oa,oc,ev,_,_,_⟩:=zH ei;subst ev;have gO:=oh.out.eY (fA.row gR.out eL (ag B)) (by decide);have c8:=gO.cell (i:=8) rfl;have f8:=gO.frozen 8);have jB:gw w3 (w3.setCell ⟨b,8,none⟩ (.slice oa (st.res.length+1) oc)) B b 197:=gw.pts jh ⟨_,_,gO⟩ [(8,.slice oa (st.res.length+1) oc)];have mH:=zh ((jW.out.res 0 eL ei).1.gK jB)
  have od:=zh (show AB (w3.setCell ⟨b,8,none⟩ (.slice oa (st.res.length+1) oc)) b st.t.id st.t.lim st.t.ro iI iJ gc' st.ey tk rh nG (.slice oa (st.res.length+1) oc) st.bytes from (by have h:=gO.set 8 (.slice oa (st.res.length+1) oc);rw[Ln] at h;exact h));have i_:=zh ((mj.out.own gR.out o7 eL (by decide)).pts jh [(8,.slice oa (st.res.length+1) oc)] ⟨_,_,gO⟩ (by decide));clear ei eL gO jB c8 f8 q8;go_wp2_with fail;go_ret;exact ⟨by rw[HF.out];try rfl,by rw[HF.out];exact ⟨iI,iJ,gc',L',rh,nO,nG,es',_,jh,od.out,mH.out⟩,i_.out⟩
 have Kc:wC P.t q.key=true∧uH P 0=false:=by
  rw[aN,Bool.not_eq_true'] at hst;exact hst
 have hpl:=zBa (P:=P) oH hq Ka ⟨Kc.1,EF.out.1 Kc.2⟩;have HF:=zh hpl;have hM:=C8.out;rw[Kb (fun h=>by rw[Kc.2] at h;cases h.2)] at hM;have HM:=zh hM;clear hpl hM;go_wp2_with fail;go_ret;exact ⟨by rw[HF.out];rfl,by rw[HF.out];exact HM.out,eP.out⟩
end Go.Proofs.YtcgfilmmokmdjaaGreat
