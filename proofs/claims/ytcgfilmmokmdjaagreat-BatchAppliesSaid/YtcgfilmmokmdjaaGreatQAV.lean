import Derived.Test.YtcgfilmmokmdjaaGreatQAU
set_option linter.all false
set_option maxRecDepth 100000
set_option maxHeartbeats 32000000
namespace Go.Proofs.YtcgfilmmokmdjaaGreat
open Go.Proofs.Tryz
open Go.RowKit
def zJy (g m r k c o z:Int):prog.built 230 [(0,.int .i64 g),(1,.int .i64 m),(2,.int .i64 r),(3,.agg #[.int .u64 k,.int .u32 c,.int .i64 o,.int .i64 z])]=some #[.int .i64 g,.int .i64 m,.int .i64 r,.int .u64 k,.int .u32 c,.int .i64 o,.int .i64 z]:=by kernel_rfl
def zNT:(prog.info? 230).map (·.size)=some 7:=by kernel_rfl
def zLu (x:lJ):(KL x).all (·.oneCell')=true:=all_oneCell_toArray (cs:=[.int .i64 x.gen,.int .i64 x.mode,.int .i64 x.rev,.int .u64 x.it.key,.int .u32 x.it.ck,.int .i64 x.it.off,.int .i64 x.it.size]) (fun v hv=>by
 simp only[bp,bt,bu] at hv
 rcases hv with h|h|h|h|h|h|h<;>rw[h]<;>rfl)
def zJe (W:World) (g:Nat) (x:lJ):W.setCells g 0 (KL x).toList=pts W g (Bh x):=th g _ 0 W
def nB.there {W:World} {b:Nat} {x:lJ} (h:nB W b x):W.there b 0 7:=fun j hj=>by
 refine ⟨?_,h.f _⟩;rcases (show j=0∨j=1∨j=2∨j=3∨j=4∨j=5∨j=6 by omega) with e|e|e|e|e|e|e<;>subst e
 ·rw[h.c0];rfl
 ·rw[h.c1];rfl
 ·rw[h.c2];rfl
 ·rw[h.c3];rfl
 ·rw[h.c4];rfl
 ·rw[h.c5];rfl
 rw[h.c6];rfl
def zC6 {P:Program} {ops:Array Oper} {rest:List Oper} {o:Oper} {a:Act} {w:World} {Q:Exit->Act->World->Prop} (hg:o.guard=none) (t:TypeId) (parts:Array (Nat×Operand)) (ho:o.op=.build t parts) (vs:List (Nat×Value)) (cells:Array Value)
  (hv:(parts.map fun (i,x)=>(i,a.eval x)).toList=vs) (hb:P.built t vs=some cells) (h:wpList P ops Q rest (a.put o.dst (.agg cells)) w):wpList P ops Q (o::rest) a w:=
 wpList_build hg t parts ho (by rw[hv,hb];rfl) (by rw[hv,hb];exact h)
def zJ2 (ts:Array Value) (W:World) (b:Nat) (g m r k c o z:Int) (bo:Bool) (h4:ts[4]?.getD undef=.pointer (some ⟨b,0,none⟩)) (h5:ts[5]?.getD undef=.bool bo)
  (c0:W.cell? ⟨b,0,none⟩=some (.int .i64 g)) (c1:W.cell? ⟨b,1,none⟩=some (.int .i64 m)) (c2:W.cell? ⟨b,2,none⟩=some (.int .i64 r)) (c3:W.cell? ⟨b,3,none⟩=some (.int .u64 k)) (c4:W.cell? ⟨b,4,none⟩=some (.int .u32 c)) (c5:W.cell? ⟨b,5,none⟩=some (.int .i64 o)) (c6:W.cell? ⟨b,6,none⟩=some (.int .i64 z)) :
  Sem.run prog (results f155 ts) W=.ok (.tuple #[.agg #[.int .i64 g,.int .i64 m,.int .i64 r,.int .u64 k,.int .u32 c,.int .i64 o,.int .i64 z],.bool bo]) W:=by
 simp[results,results155,go_sem,h4,h5,c0,c1,c2,c3,c4,c5,c6]
def zIi (i l:Int) (r:Bool) (a:Option Addr) (n c:Nat) (L:List GP) (w:World) (h:fB w (.slice a n c) L) (hs:∀ p∈L,∀ j,j<8->(p.1.m.st j).length<=10000) (hv:zb ⟨i,l,r,ey L⟩=false) (key:Int) :
  Calls prog 155 #[zQ i l r a n c,.int .u64 key] w fun e w'=>e=.returned (.tuple #[Dt ((yF ⟨i,l,r,ey L⟩ key).headD yv),.bool (!(yF ⟨i,l,r,ey L⟩ key).isEmpty)])/\Below w.heap.size w w':=by
 have fV:=zh (fun W (hb:Below w.heap.size w W)=>zt i l r a n c L W (h.bb hb) hs);rw[hv] at fV;rw[S_ hv];have eO:=zh (fp.new w i l r a n c 31);have eP:=zh (zR w i l r a n c 31);have hcap:n<=9223372036854775807:=by
  show n<=maxLen
  obtain ⟨_,_,e,h1,h2⟩:=h.shape;injection e with _ e _;rw[e];exact ak h1 h2
 clear h hs hv
 go_enter func155,ntmps155
 go_upto_region 1 with fail;obtain ⟨W,hW⟩:∃ W,w.alloc (.cells (zM i l r a n c) 31)=W:=⟨_,rfl⟩
 change Code.wp _ _ _ _ ((w.alloc (.cells (zM i l r a n c) 31)).alloc _);have hsz:W.heap.size=w.heap.size+1:=by rw[<- hW];simp
 rw[hW] at eO eP |-;clear hW;have pH:=eO.o.lt;have oh:=zh (show nB (W.alloc (.cells #[.int .i64 0,.int .i64 0,.int .i64 0,.int .u64 0,.int .u32 0,.int .i64 0,.int .i64 0] 230)) (w.heap.size+1) yv by rw[<- hsz];exact ⟨by simp[yv,fZ],by simp[yv,fZ],by simp[yv,fZ],by simp[yv,fZ],by simp[yv,fZ],by simp[yv,fZ],by simp[yv,fZ],fun i=>by simp⟩);have eV:=zh (eP.o.alloc eP.o.size (.cells #[.int .i64 0,.int .i64 0,.int .i64 0,.int .u64 0,.int .u32 0,.int .i64 0,.int .i64 0] 230));have fG:=zh (eO.o.bb ((aj _ W).alloc (ag _) (.cells #[.int .i64 0,.int .i64 0,.int .i64 0,.int .u64 0,.int .u32 0,.int .i64 0,.int .i64 0] 230)));clear eO eP;generalize W.alloc (.cells #[.int .i64 0,.int .i64 0,.int .i64 0,.int .u64 0,.int .u32 0,.int .i64 0,.int .i64 0] 230)=W1 at *;clear hsz pH;obtain ⟨k0,k1,k2,k3⟩:=fG.o.q;have z0:=oh.o.c0
 have z1:=oh.o.c1;have z2:=oh.o.c2;have z3:=oh.o.c3;have z4:=oh.o.c4;have z5:=oh.o.c5;have z6:=oh.o.c6;have hf:=oh.o.f;have hlz:w.heap.size+1<W1.heap.size:=oh.o.lt
 by_cases h1:1<=n
 ·have i1:(0:Int)<=(n:Int)-1:=by omega
  have i2:¬ (n:Int)-1<0:=by omega
  go_wp2_with fail
  go_loopw [6] (fun iv V=>iv=.int .i64 ((n:Int)-1)/\V=W1) (fun _ _=>0)
  case atStart=>exact ⟨rfl,rfl⟩
  obtain ⟨rfl,rfl⟩:=hrel;go_wp2_with fail;refine (fV.o _ eV.o).mono ?_;rintro e w1 ⟨rfl,hb1⟩;have NM:=zh (zA eV.o hb1);have HP:=zh (oh.o.bb hb1);clear k0 k1 k2 k3 hb1 z0 z1 z2 z3 z4 z5 z6 hf;have z0:=HP.o.c0;have z1:=HP.o.c1;have z2:=HP.o.c2;have z3:=HP.o.c3;have z4:=HP.o.c4;have z5:=HP.o.c5;have z6:=HP.o.c6;have hf:=HP.o.f;have hlz:w.heap.size+1<w1.heap.size:=HP.o.lt;go_wp2_with fail;change bodyPost _ _ _ _ _ (pts w1 (w.heap.size+1) (Bh yv));have hby:=HP.o.all yv;have eN:=zh (zC (B:=w.heap.size) (b:=w.heap.size+1) (by omega) (Bh yv) NM.o);generalize pts w1 (w.heap.size+1) (Bh yv)=V at *;refine au (v:=.tuple #[Dt yv,.bool false]) (by simp[results,results155,go_sem,hby.c0,hby.c1,hby.c2,hby.c3,hby.c4,hby.c5,hby.c6]) rfl ⟨rfl,eN.o⟩
 have i1:¬ (0:Int)<=(n:Int)-1:=by omega
 have i2:(n:Int)-1<0:=by omega
 go_wp2_with fail
 go_loopw [6] (fun iv V=>iv=.int .i64 ((n:Int)-1)/\V=W1) (fun _ _=>0)
 case atStart=>exact ⟨rfl,rfl⟩
 obtain ⟨rfl,rfl⟩:=hrel;go_wp2_with fail;change bodyPost _ _ _ _ _ (pts wr (w.heap.size+1) (Bh yv));have hby:=oh.o.all yv;have eN:=zh (zC (B:=w.heap.size) (b:=w.heap.size+1) (by omega) (Bh yv) eV.o);generalize pts wr (w.heap.size+1) (Bh yv)=V at *;refine au (v:=.tuple #[Dt yv,.bool false]) (by simp[results,results155,go_sem,hby.c0,hby.c1,hby.c2,hby.c3,hby.c4,hby.c5,hby.c6]) rfl ⟨rfl,eN.o⟩
def zGe (i l:Int) (r:Bool) (a:Option Addr) (n c:Nat) (L:List GP) (w:World) (h:fB w (.slice a n c) L) (hs:∀ p∈L,∀ j,j<8->(p.1.m.st j).length<=10000) (hv:zb ⟨i,l,r,ey L⟩=true) (key:Int) :
  Calls prog 155 #[zQ i l r a n c,.int .u64 key] w fun e w'=>e=.returned (.tuple #[Dt ((yF ⟨i,l,r,ey L⟩ key).headD yv),.bool (!(yF ⟨i,l,r,ey L⟩ key).isEmpty)])/\Below w.heap.size w w':=by
 have fV:=zh (fun W (hb:Below w.heap.size w W)=>zt i l r a n c L W (h.bb hb) hs);rw[hv] at fV;have fT:L.length=n:=by
  obtain ⟨_,_,e,_⟩:=h.shape;injection e with _ e _;exact e.symm
 rw[zFC fT.symm hv];have hV:=(zX _).1 hv;have hn:1<=n/\n<=8:=by have:=hV.len;simp only[zk,fT] at this;exact this
 have HR:=zh h;have IU:Hid (∀ k,k<n->pat L k∈L):=zh (fun k hk=>yP (by omega));have Fu:=zh hs;have P9:Hid (∀ k,xp (ey L) key (k+1)=(match zl (pat L k).1.m key with|some x=>[⟨(pat L k).1.num,(pat L k).1.mode,(pat L k).1.rev,x,k⟩]|none=>[])++xp (ey L) key k):=zh (fun k=>by rw[<- yj];rfl);have eO:=zh (fp.new w i l r a n c 31);have eP:=zh (zR w i l r a n c 31);clear h hs hv hV fT;obtain ⟨F,HF⟩:∃ F,Hid (xp (ey L) key n=F):=⟨_,zh rfl⟩
 rw[HF.o]
 go_enter func155,ntmps155
 go_upto_region 1 with fail;obtain ⟨W,hW⟩:∃ W,w.alloc (.cells (zM i l r a n c) 31)=W:=⟨_,rfl⟩
 change Code.wp _ _ _ _ ((w.alloc (.cells (zM i l r a n c) 31)).alloc _);have hsz:W.heap.size=w.heap.size+1:=by rw[<- hW];simp
 rw[hW] at eO eP |-;clear hW;have pH:=eO.o.lt;have oh:=zh (show nB (W.alloc (.cells #[.int .i64 0,.int .i64 0,.int .i64 0,.int .u64 0,.int .u32 0,.int .i64 0,.int .i64 0] 230)) (w.heap.size+1) yv by rw[<- hsz];exact ⟨by simp[yv,fZ],by simp[yv,fZ],by simp[yv,fZ],by simp[yv,fZ],by simp[yv,fZ],by simp[yv,fZ],by simp[yv,fZ],fun i=>by simp⟩);have eV:=zh (eP.o.alloc eP.o.size (.cells #[.int .i64 0,.int .i64 0,.int .i64 0,.int .u64 0,.int .u32 0,.int .i64 0,.int .i64 0] 230));have fG:=zh (eO.o.bb ((aj _ W).alloc (ag _) (.cells #[.int .i64 0,.int .i64 0,.int .i64 0,.int .u64 0,.int .u32 0,.int .i64 0,.int .i64 0] 230)));clear eO eP;generalize W.alloc (.cells #[.int .i64 0,.int .i64 0,.int .i64 0,.int .u64 0,.int .u32 0,.int .i64 0,.int .i64 0] 230)=W1 at *;clear hsz pH;obtain ⟨k0,k1,k2,k3⟩:=fG.o.q;go_wp2_with fail
 go_loopw [6] (fun iv V=>∃ k:Nat,iv=.int .i64 ((k:Int)-1)/\k<=n/\Hid (xp (ey L) key k=F)/\Hid (Below W1.heap.size W1 V)) (fun iv _=>(intOf iv+1).toNat)
 case atStart=>exact ⟨n,rfl,ag _,HF,zh (aj _ _)⟩
 obtain ⟨k,rfl,hk,sY,HB⟩:=hrel;have oO:=zh (zA eV.o HB.o);have hx:=fG.o.bb HB.o;clear k0 k1 k2 k3;obtain ⟨k0,k1,k2,k3⟩:=hx.q;clear hx
 by_cases hlk:0<k
 ·obtain ⟨m,rfl⟩:∃ m,k=m+1:=⟨k-1,by omega⟩
  have em:((m+1:Nat):Int)-1=(m:Int):=by omega
  rw[em];clear em
  as_aux_lemma =>
  have i1:(0:Int)<=(m:Int):=by omega
  have i2:¬ (m:Int)<0:=by omega
  have i3:(m:Int)<(n:Int):=by omega
  have i4:m<n:=by omega
  go_wp2_with fail;refine (fV.o _ oO.o).mono ?_;rintro e w1 ⟨rfl,hb1⟩;have jK:=zh (HB.o.trans (hb1.mono HB.o.size));clear k0 k1 k2 k3 hb1 HB oO;have nK:=zh (zA eV.o jK.o);have HP:=zh (oh.o.bb jK.o);have k3:=(fG.o.bb jK.o).c3;have hR:=HR.o.bb nK.o;obtain ⟨b,off,rfl,hg⟩:=hR.at (show m<n by omega);have rG:=zh hg;have lz:=zh (hR.m _ (IU.o m (by omega)));have oD:=zh (Fu.o _ (IU.o m (by omega)));have hon:=P9.o m;rw[sY.o] at hon;clear hR hg sY;generalize pat L m=p at *;obtain ⟨⟨num,rev,md,sz,⟨f,LV,GA⟩⟩,s⟩:=p;dsimp only at *;have Cj:=zh (qt s ⟨f,LV,GA⟩ key w1 lz.o oD.o);clear lz oD;obtain ⟨g0,g1,g2,g3,g4,g5,g6,g7,g8,g9,g10,g11,g12,g13⟩:=rG.o.q;dsimp only at g0 g1 g2 g3 g4 g5 g6 g7 g8 g9 g10 g11 g12 g13
  cases C2:zl ⟨f,LV,GA⟩ key with
  |none =>
   rw[C2] at Cj hon;have pX:Hid (xp (ey L) key m=F):=zh (hon.symm);clear C2 hon;have KQ:Hid (Calls prog 124 #[yD s LV GA,.int .u64 key] w1 fun e w'=>e=.returned (.tuple #[.agg #[.int .u64 0,.int .u32 0,.int .i64 0,.int .i64 0],.bool false])/\Below w1.heap.size w1 w'):=zh (Cj.o);clear Cj;go_wp2_with fail;refine KQ.o.mono ?_;rintro e w2 ⟨rfl,hb2⟩;have hA:=(aj w2.heap.size w2).alloc (ag _) (.cells #[.int .u64 0,.int .u32 0,.int .i64 0,.int .i64 0] 49);have hb3:=hb2.trans (hA.mono hb2.size);have eX:=zh (jK.o.trans (hb3.mono jK.o.size));clear hA hb3 hb2 g0 g1 g2 g3 g4 g5 g6 g7 g8 g9 g10 g11 g12 g13 k3;go_wp2_with fail;exact ⟨⟨m,by go_num,by omega,pX,eX⟩,by simp[intOf]⟩
  |some x =>
   rw[C2] at Cj hon;obtain ⟨xk,xc,xo,xz⟩:=x;have pX:Hid (F=⟨num,md,rev,⟨xk,xc,xo,xz⟩,m⟩::xp (ey L) key m):=zh (hon);clear C2 hon;have KQ:Hid (Calls prog 124 #[yD s LV GA,.int .u64 key] w1 fun e w'=>e=.returned (.tuple #[.agg #[.int .u64 xk,.int .u32 xc,.int .i64 xo,.int .i64 xz],.bool true])/\Below w1.heap.size w1 w'):=zh (Cj.o);clear Cj;go_wp2_with fail;refine KQ.o.mono ?_;rintro e w2 ⟨rfl,hb2⟩;have hA:=(aj w2.heap.size w2).alloc (ag _) (.cells #[.int .u64 xk,.int .u32 xc,.int .i64 xo,.int .i64 xz] 49);have hb3:=hb2.trans (hA.mono hb2.size);have eX:=zh (nK.o.trans (hb3.mono nK.o.size));have nt:=zh (HP.o.bb hb3);have Qb:=Below.keeps hb3 _ _ g0;have Yu:=Below.keeps hb3 _ _ g1;have Yv:=Below.keeps hb3 _ _ g2;have Qc:=Below.keeps hb3 _ _ k3
   have x0:(w2.alloc (.cells #[.int .u64 xk,.int .u32 xc,.int .i64 xo,.int .i64 xz] 49)).cell? ⟨w2.heap.size,0,none⟩=some (.int .u64 xk):=by simp
   have x1:(w2.alloc (.cells #[.int .u64 xk,.int .u32 xc,.int .i64 xo,.int .i64 xz] 49)).cell? ⟨w2.heap.size,1,none⟩=some (.int .u32 xc):=by simp
   have x2:(w2.alloc (.cells #[.int .u64 xk,.int .u32 xc,.int .i64 xo,.int .i64 xz] 49)).cell? ⟨w2.heap.size,2,none⟩=some (.int .i64 xo):=by simp
   have x3:(w2.alloc (.cells #[.int .u64 xk,.int .u32 xc,.int .i64 xo,.int .i64 xz] 49)).cell? ⟨w2.heap.size,3,none⟩=some (.int .i64 xz):=by simp
   clear hA hb3 hb2 g0 g1 g2 g3 g4 g5 g6 g7 g8 g9 g10 g11 g12 g13 k3;go_upto_region 6 with fail;generalize w2.alloc (.cells #[.int .u64 xk,.int .u32 xc,.int .i64 xo,.int .i64 xz] 49)=w3 at *;have z0:=nt.o.c0;have z1:=nt.o.c1;have z2:=nt.o.c2;have z3:=nt.o.c3;have z4:=nt.o.c4;have z5:=nt.o.c5;have z6:=nt.o.c6;have hf:=nt.o.f;have hlz:w.heap.size+1<w3.heap.size:=nt.o.lt;have Aq:=zh (nt.o.bb (zV (aj _ _)));have KR:=zh (zV eX.o);have hdr:=zV (aj w3.heap.size w3);replace Qb:=Below.keeps hdr _ _ Qb;replace Yu:=Below.keeps hdr _ _ Yu;replace Yv:=Below.keeps hdr _ _ Yv;replace Qc:=Below.keeps hdr _ _ Qc;replace x0:=Below.keeps hdr _ _ x0;replace x1:=Below.keeps hdr _ _ x1;replace x2:=Below.keeps hdr _ _ x2;replace x3:=Below.keeps hdr _ _ x3;clear hdr z0 z1 z2 z3 z4 z5 z6 hf;have z0:=Aq.o.c0;have z1:=Aq.o.c1
   have z2:=Aq.o.c2;have z3:=Aq.o.c3;have z4:=Aq.o.c4;have z5:=Aq.o.c5;have z6:=Aq.o.c6;have hf:=Aq.o.f;refine wp_region_still_tail 19 (by kernel_rfl) (by kernel_rfl) ?_;simp only[dP,List.take_zero,List.drop_succ_cons,List.drop_zero];change wpStill prog _ (World.drew _) _ _ _
   iterate 19 still_step
   refine wpStill_nil ?_;change wpList _ _ _ _ _ (World.drew _);clear nt eX;clear hlz;have hlz:w.heap.size+1<(World.drew w3).heap.size:=Aq.o.lt;generalize World.drew w3=w9 at *;clear Qb Yu Yv Qc x0 x1 x2 x3 rG KQ;refine zC6 rfl 230 #[(0,.tmp 38),(1,.tmp 44),(2,.tmp 50),(3,.tmp 51)] rfl [(0,.int .i64 num),(1,.int .i64 md),(2,.int .i64 rev),(3,.agg #[.int .u64 xk,.int .u32 xc,.int .i64 xo,.int .i64 xz])] #[.int .i64 num,.int .i64 md,.int .i64 rev,.int .u64 xk,.int .u32 xc,.int .i64 xo,.int .i64 xz] (by first|(simp[go_sem];done)|(simp[Act.eval];done)) (zJy _ _ _ _ _ _ _) ?_;have JD:=zh Aq.o.there;clear z0 z1 z2 z3 z4 z5 z6 hf;refine wpList_store_mid rfl 230 (.tmp 4) (.tmp 52) rfl (w.heap.size+1) 0 (KL (⟨num,md,rev,⟨xk,xc,xo,xz⟩,m⟩:lJ)) rfl rfl JD.o zNT (zLu _) ?_;rw[zJe];have Yw:=hlz
   have hby:=Aq.o.all (⟨num,md,rev,⟨xk,xc,xo,xz⟩,m⟩:lJ);have eN:=zh (zC (B:=w.heap.size) (b:=w.heap.size+1) (by omega) (Bh (⟨num,md,rev,⟨xk,xc,xo,xz⟩,m⟩:lJ)) KR.o);generalize pts w9 (w.heap.size+1) (Bh (⟨num,md,rev,⟨xk,xc,xo,xz⟩,m⟩:lJ))=wq at *;clear JD Aq KR HP oh eV fG jK nK HR fV hlz Yw;have c0:wq.cell? ⟨w.heap.size+1,0,none⟩=some (.int .i64 num):=hby.c0;have c1:wq.cell? ⟨w.heap.size+1,1,none⟩=some (.int .i64 md):=hby.c1;have c2:wq.cell? ⟨w.heap.size+1,2,none⟩=some (.int .i64 rev):=hby.c2;have c3:wq.cell? ⟨w.heap.size+1,3,none⟩=some (.int .u64 xk):=hby.c3;have c4:wq.cell? ⟨w.heap.size+1,4,none⟩=some (.int .u32 xc):=hby.c4;have c5:wq.cell? ⟨w.heap.size+1,5,none⟩=some (.int .i64 xo):=hby.c5;have c6:wq.cell? ⟨w.heap.size+1,6,none⟩=some (.int .i64 xz):=hby.c6;clear hby
   go_wp2_with fail
   have hend:=zh (show Ending.returned (.tuple #[.agg #[.int .i64 num,.int .i64 md,.int .i64 rev,.int .u64 xk,.int .u32 xc,.int .i64 xo,.int .i64 xz],.bool true])=.returned (.tuple #[Dt (F.headD yv),.bool (!F.isEmpty)]) by
    rw[pX.o];rfl)
   clear pX;have hBz:=eN.o;exact au (v:=.tuple #[.agg #[.int .i64 num,.int .i64 md,.int .i64 rev,.int .u64 xk,.int .u32 xc,.int .i64 xo,.int .i64 xz],.bool true]) (zJ2 _ _ _ _ _ _ _ _ _ _ _ rfl rfl c0 c1 c2 c3 c4 c5 c6) rfl ⟨hend.o,hBz⟩
 obtain rfl:k=0:=by omega
 have i1:¬ (0:Int)<=((0:Nat):Int)-1:=by omega
 have i2:((0:Nat):Int)-1<0:=by omega
 have pX:Hid (F=[]):=zh (sY.o.symm);have HP:=zh (oh.o.bb HB.o);clear sY;have z0:=HP.o.c0;have z1:=HP.o.c1;have z2:=HP.o.c2;have z3:=HP.o.c3;have z4:=HP.o.c4;have z5:=HP.o.c5;have z6:=HP.o.c6;have hf:=HP.o.f;have hlz:w.heap.size+1<wr.heap.size:=HP.o.lt;go_wp2_with fail;rw[pX.o];change bodyPost _ _ _ _ _ (pts wr (w.heap.size+1) (Bh yv));have hby:=HP.o.all yv;have eN:=zh (zC (B:=w.heap.size) (b:=w.heap.size+1) (by omega) (Bh yv) oO.o);generalize pts wr (w.heap.size+1) (Bh yv)=V at *;refine au (v:=.tuple #[Dt yv,.bool false]) (by simp[results,results155,go_sem,hby.c0,hby.c1,hby.c2,hby.c3,hby.c4,hby.c5,hby.c6]) rfl ⟨rfl,eN.o⟩
def zGO (i l:Int) (r:Bool) (a:Option Addr) (n c:Nat) (L:List GP) (w:World) (h:fB w (.slice a n c) L) (hs:∀ p∈L,∀ j,j<8->(p.1.m.st j).length<=10000) (key:Int) :
  Calls prog 155 #[zQ i l r a n c,.int .u64 key] w fun e w'=>e=.returned (.tuple #[Dt ((yF ⟨i,l,r,ey L⟩ key).headD yv),.bool (!(yF ⟨i,l,r,ey L⟩ key).isEmpty)])/\Below w.heap.size w w':=by
 cases hv:zb ⟨i,l,r,ey L⟩
 ·exact zIi i l r a n c L w h hs hv key
 exact zGe i l r a n c L w h hs hv key
def zM6 (s:fk) (a:Option Addr) (n c:Nat) (L:List GP) (W:World) (hr:fB W (.slice a n c) L) (hg:ey L=s.ep) (hl:fF 1000 s.ep) (key:Int) :
  Calls prog 155 #[zQ s.id s.lim s.ro a n c,.int .u64 key] W fun e w'=>e=.returned (.tuple #[Dt ((yF s key).headD yv),.bool (!(yF s key).isEmpty)])/\Below W.heap.size W w':=by
 have h:=zGO s.id s.lim s.ro a n c L W hr (yx (hg▸hl) (by decide)) key;obtain ⟨i,l,r,g⟩:=s;dsimp only at hg h |-;subst hg;exact h
def zMa (s:fk) (a:Option Addr) (n c:Nat) (L:List GP) (W:World) (hr:fB W (.slice a n c) L) (hg:ey L=s.ep) (hl:fF 1000 s.ep) (key:Int) :
  Calls prog 156 #[zQ s.id s.lim s.ro a n c,.int .u64 key] W fun e w'=>∃ v',e=.returned v'/\gY w' W.heap.size v' (zd s key)/\Below W.heap.size W w':=by
 have h:=zGa s.id s.lim s.ro a n c L W hr (yx (hg▸hl) (by decide)) key;obtain ⟨i,l,r,g⟩:=s;dsimp only at hg h |-;subst hg;exact h
def fD.QS {W W':World} {B B' sz n:Nat} {T:TypeId} {v:Value} {xs:List Value} (h:fD B W W') (ho:W.ownsRow B' T sz v n xs) (hT:T∉mT):W'.ownsRow B' T sz v n xs:=
 ⟨ho.1,ho.2.imp id fun ⟨g,cap,cur,e,hb,hg,r⟩=>⟨g,cap,cur,e,hb,h.k g cur T (0,0) hg hT,r⟩⟩
def kg {S:fk} {P:fP} {key:Int} {l:List Int} (h:Kp S P.t) (hl:∀ x∈l,∃ r,r+1<S.ep.length/\x=(fh S.ep r).num):∀ k,k<=l.length->Kp S (yA P key l k).t
 |0,_=>h
 |k+1,hk=>by
  rw[vA P key l k (by omega)];have ih:=kg (key:=key) h hl k (by omega);obtain ⟨r,hr,e⟩:=hl _ (Om (l:=l) (j:=k) (by omega));have hr2:r+1<(yA P key l k).t.ep.length:=by rw[ih.len];exact hr
  have e2:(yU key (yA P key l k) (pW l k)).t=wg (yA P key l k).t r (uU (fh (yA P key l k).t.ep r) key):=by
   show (yK _ _ [key]).1=_
   rw[e,<- ih.num r (by omega),uv ih.v hr2]
  rw[e2];exact ih.set (fit_drop ih.v hr2 key)
variable {P:fP}
def zFS {S:fk} {key:Int} {l:List Int} (h:Kp S P.t) (hl:∀ x∈l,∃ r,r+1<S.ep.length/\x=(fh S.ep r).num) {k:Nat} (hk:k<l.length):∃ r,r+1<(yA P key l k).t.ep.length/\pW l k=(fh (yA P key l k).t.ep r).num:=by
 have ih:=kg (key:=key) h hl k (by omega);obtain ⟨r,hr,e⟩:=hl _ (Om (l:=l) (j:=k) hk);exact ⟨r,by rw[ih.len];exact hr,by rw[ih.num r (by omega)];exact e⟩
def zGz {w:World} {B b:Nat} {tk:Int} (hM:mX w B b tk P) (hB:B<=w.heap.size) (hl:fF 700 P.t.ep) (hv:fg P.t) (QI:AY P) (hby:0<=P.bytes/\P.bytes<=1000000000) (hel:P.needs.length<=900) (M:Nat) (BO:M<=90000) (hsk:pR M P.eE) (Mx:P.res.length<16) (q:Rq) (hq1:q.kind=2) (rt rk key ck:Int) (da:Option Addr) (dn dc:Nat) (Av:(q.key:Int)=key) (Cx:(q.ck:Int)=ck) :
  Calls prog 111 #[.pointer (some ⟨b,0,none⟩),Eg rt rk key ck (.slice da dn dc)] w fun e w'=>e=.returned (.bool (zq P q).1)/\mX w' B b tk (zq P q).2/\fD B w w':=by
 have hq:=hq1;have p_:¬ P.res.length=16:=by omega
 obtain ⟨ga,gn,gc,L,kv,ks,nv,es,rv,hlo,hP,hR⟩:=hM;have GR:es.length<=1000:=by
  have h:=aM List.length hR.nn;rw[aH] at h;omega
 have AH:=zh (fun W (hb:Below w.heap.size w W)=>zM6 P.t ga gn gc L W (hR.g.rd.bb hb) hR.gg (hl.mono (by decide)) key);have NV:=zh (fun W (hb:Below w.heap.size w W)=>zMa P.t ga gn gc L W (hR.g.rd.bb hb) hR.gg (hl.mono (by decide)) key);have hkN:gD w B (.slice none 0 0) (uH q).data:=show iI w B 5 1 (.slice none 0 0) 0 [] from iI.own (aP w B 5 1);have lL:=zh (fun W (hb:Below w.heap.size w W)=>zDC (w:=W) (B:=B) (b:=b) (tk:=tk) (P:=P) hlo (hP.bb hb) (hR.bb hb) (hl.mono (by decide)) (ak hB hb.size) (uH q) none 0 0 (show gD W B _ _ from iI.bb hkN hb) rfl (by decide) GR hby);have hkey:((uH q).key:Int)=key:=Av;have hck:((uH q).ck:Int)=ck:=Cx;have hdel:(uH q).del=true:=rfl;rw[hkey,hck,hdel] at lL;have Ei:=zh hP;have Ga:=zh QI
 have QT:=zh (fun W (hb:Below w.heap.size w W)=>show mX W B b tk P from ⟨ga,gn,gc,L,kv,ks,nv,es,rv,hlo,hP.bb hb,hR.bb hb⟩);have fS:b<w.heap.size:=hP.lt;have HE:=zh (show xE P.t q=if (yF P.t key).isEmpty=false/\((yF P.t key).headD yv).it.ck=ck then 0 else 6 by unfold xE;rw[Av,Cx]);have HT:=zh (show wO P.t q.key=(!(yF P.t key).isEmpty&&decide (((yF P.t key).headD yv).mode=1)) by unfold wO;rw[Av]);have CU:=zh (show wY P q=(zd P.t key).foldl (yU key) (if wO P.t q.key=true then xR P (uH q) else P) by rw[<- zK6 hv];unfold Yg;rw[Av]);have TR:Hid (∀ x∈zd P.t key,∃ r,r+1<P.t.ep.length/\x=(fh P.t.ep r).num):=zh (fun _ hx=>Yc hv hx);have Ov:Hid (wO P.t q.key=true->Kp P.t (xR P (uH q)).t):=zh (fun h=>QB hv (Ye ((tE hv _).1 h)))
 have EG:Hid (fF 701 (xR P (uH q)).t.ep):=zh (Xz (s:=P.t) (g:=(yZ (wU P.t).2 [uH q]).2) (K:=701) (hl.mono (by omega)) (fun i hi=>uF (Tj hl) i hi));have Ls:=zh hv;have HLl:=zh hl;have oD:=zh hsk;generalize (yF P.t key).headD yv=Y at *;obtain ⟨fo,hfo⟩:∃ fo,(!(yF P.t key).isEmpty)=fo:=⟨_,rfl⟩
 rw[hfo] at AH HT;have oB:=zh (show xE P.t q=if fo=true/\Y.it.ck=ck then 0 else 6 by rw[HE.o,<- hfo];simp);clear hfo HE Av Cx hkey hck hdel hkN;obtain ⟨yg,ym,yr,⟨yk,yc,yo,yz⟩,ya⟩:=Y;dsimp only[Dt,KL] at AH oB HT;clear hP hR hl hv QI GR hsk
 go_enter func111,ntmps111
 go_upto_region 1 with fail;change Code.wp _ _ _ _ (.alloc _ (.cells _ 63));obtain ⟨w1,hV,eG,HX⟩:=dY w #[.int .i64 rt,.int .i64 rk,.int .u64 key,.int .u32 ck,.slice da dn dc] 63;rw[hV];clear hV;have oO:=zh eG;have BV:=zh (Ei.o.bb eG);clear eG;generalize oU:w.heap.size=b3 at *;have hz1:w.heap.size<=b3:=by omega
 have hz2:b3<=w.heap.size:=by omega
 clear oU;have h13:b3<=w1.heap.size:=ak hz2 oO.o.size
 go_cut [5,6] (fun vb ve wx=>∃ b,vb=.pointer (some ⟨b,0,none⟩)/\ve=.bool fo/\Hid (eu wx b ([(0,.int .i64 yg),(1,.int .i64 ym),(2,.int .i64 yr),(3,.int .u64 yk),(4,.int .u32 yc),(5,.int .i64 yo),(6,.int .i64 yz)].foldl (fun cs p=>cs.setIfInBounds p.1 p.2) #[.int .i64 0,.int .i64 0,.int .i64 0,.int .u64 0,.int .u32 0,.int .i64 0,.int .i64 0]) 230)/\Hid (Below w1.heap.size w1 wx))
 case first =>
  refine yQ [eT (.pointer (some ⟨b,0,none⟩)),eT (.pointer (some ⟨b,0,none⟩)),eT (.pointer (some ⟨b,0,none⟩)),eT (zQ P.t.id P.t.lim P.t.ro ga gn gc),eT (.pointer (some ⟨b3,2,none⟩)),eT (.int .u64 key),eT (.tuple #[.agg #[.int .i64 yg,.int .i64 ym,.int .i64 yr,.int .u64 yk,.int .u32 yc,.int .i64 yo,.int .i64 yz],.bool fo]),eT (.tuple #[.agg #[.int .i64 yg,.int .i64 ym,.int .i64 yr,.int .u64 yk,.int .u32 yc,.int .i64 yo,.int .i64 yz],.bool fo]),eT (.agg #[.int .i64 yg,.int .i64 ym,.int .i64 yr,.int .u64 yk,.int .u32 yc,.int .i64 yo,.int .i64 yz]),eT (.bool fo),zMx 230 w1.heap.size] [10] 85 9 (by kernel_rfl) (by kernel_rfl) rfl rfl (by decide) (by rfl) (by kernel_rfl) (fun f=>by simp[fU,zW,Act.put];exact rfl) ?_ ?_ ?_
  ·refine ⟨?_,?_,?_,?_,?_,?_,?_,?_,?_,?_,?_,trivial⟩
   ·intro f w2 hb hd;clear hd;dsimp only;go_wp2_with fail;exact pS rfl (by simp)
   ·intro f w2 hb hd;have d0:f 0=_:=hd 0 (by kernel_rfl);clear hd;dsimp only;rw[d0];go_wp2_with fail;exact pS rfl (by simp)
   ·intro f w2 hb hd;have d1:f 1=_:=hd 1 (by kernel_rfl);clear hd;dsimp only;rw[d1];go_wp2_with fail;exact pS rfl (by simp)
   ·intro f w2 hb hd;have d2:f 2=_:=hd 2 (by kernel_rfl);clear hd;dsimp only;rw[d2];have hx:=BV.o.bb hb;have q0:=hx.cell (i:=0) rfl;have q1:=hx.cell (i:=1) rfl;have q2:=hx.cell (i:=2) rfl;have q3:=hx.cell (i:=3) rfl;clear hx;go_wp2_with fail;exact pS rfl (by simp)
   ·intro f w2 hb hd;clear hd;dsimp only;go_wp2_with fail;exact pS rfl (by simp)
   ·intro f w2 hb hd;have d4:f 4=_:=hd 4 (by kernel_rfl);clear hd;dsimp only;rw[d4];have q2:=(HX.o.bb hb).cell (i:=2) rfl;go_wp2_with fail;exact pS rfl (by simp)
   ·intro f w2 hb hd;have d3:f 3=_:=hd 3 (by kernel_rfl);have d5:f 5=_:=hd 5 (by kernel_rfl);clear hd;dsimp only;rw[d3];rw[d5];go_wp2_with fail;refine (AH.o w2 (oO.o.trans (hb.mono (ak hz2 oO.o.size)))).mono ?_;rintro e w9 ⟨rfl,gy⟩;go_wp2_with fail;exact pT rfl (by simp) gy
   ·intro f w2 hb hd;have d6:f 6=_:=hd 6 (by kernel_rfl);clear hd;dsimp only;rw[d6];go_wp2_with fail;exact pS rfl (by simp)
   ·intro f w2 hb hd;have d7:f 7=_:=hd 7 (by kernel_rfl);clear hd;dsimp only;rw[d7];go_wp2_with fail;exact pS rfl (by simp)
   ·intro f w2 hb hd;have d7:f 7=_:=hd 7 (by kernel_rfl);clear hd;dsimp only;rw[d7];go_wp2_with fail;exact pS rfl (by simp)
   intro f w2 hb hd;clear hd;dsimp only;have pJ:=hb.size;have Ar:=eu.new w2 #[.int .i64 0,.int .i64 0,.int .i64 0,.int .u64 0,.int .u32 0,.int .i64 0,.int .i64 0] 230;go_wp2_with fail;exact ⟨rfl,(aj _ _).alloc (ag _) _,fun t ht=>by injection ht with ht;subst ht;exact ⟨⟨_,rfl,pJ,Ar⟩,fun _=>⟨ag _,by simp[blk]⟩⟩⟩
  ·intro f w5 hb hd iX;clear iX;have d8:f 8=_:=hd 8 (by simp);have d9:f 9=_:=hd 9 (by simp);obtain ⟨GD,d10,Dx,gC⟩:=hd 10 (show 10<11 by decide)
   try dsimp only
   rw[d8,d9,d10];clear hd d8 d9 d10;have fH:=zh (zC (B:=w1.heap.size) (b:=GD) Dx [(0,.int .i64 yg),(1,.int .i64 ym),(2,.int .i64 yr),(3,.int .u64 yk),(4,.int .u32 yc),(5,.int .i64 yo),(6,.int .i64 yz)] hb);have HY:=zh (eu.sets [(0,.int .i64 yg),(1,.int .i64 ym),(2,.int .i64 yr),(3,.int .u64 yk),(4,.int .u32 yc),(5,.int .i64 yo),(6,.int .i64 yz)] gC);have H0:=zh gC;have x0:=gC.cell (i:=0) rfl;have x1:=gC.cell (i:=1) rfl;have x2:=gC.cell (i:=2) rfl;have x3:=gC.cell (i:=3) rfl;have x4:=gC.cell (i:=4) rfl;have x5:=gC.cell (i:=5) rfl;have x6:=gC.cell (i:=6) rfl;have xf:=gC.frozen;clear gC hb;change wpList _ _ _ (_::_::[]) _ _;go_wp2_with fail;go_meet
   case rel=>exact ⟨GD,rfl,rfl,HY,fH⟩
  intro f w5 hb hd iX;clear iX;have d7:f 7=_:=hd 7 (by simp) (by decide);have d8:f 8=_:=hd 8 (by simp) (by decide);obtain ⟨GD,d10,Dx,gC⟩:=hd 10 (show 10<11 by decide) (by decide)
  try dsimp only
  rw[d7,d8,d10];clear hd d7 d8 d10;have fH:=zh (zC (B:=w1.heap.size) (b:=GD) Dx [(0,.int .i64 yg),(1,.int .i64 ym),(2,.int .i64 yr),(3,.int .u64 yk),(4,.int .u32 yc),(5,.int .i64 yo),(6,.int .i64 yz)] hb);have HY:=zh (eu.sets [(0,.int .i64 yg),(1,.int .i64 ym),(2,.int .i64 yr),(3,.int .u64 yk),(4,.int .u32 yc),(5,.int .i64 yo),(6,.int .i64 yz)] gC);have H0:=zh gC;have x0:=gC.cell (i:=0) rfl;have x1:=gC.cell (i:=1) rfl;have x2:=gC.cell (i:=2) rfl;have x3:=gC.cell (i:=3) rfl;have x4:=gC.cell (i:=4) rfl;have x5:=gC.cell (i:=5) rfl;have x6:=gC.cell (i:=6) rfl;have xf:=gC.frozen;clear gC hb;change wpList _ _ _ (_::_::_::[]) _ _;go_wp2_with fail;go_meet
  case rel=>exact ⟨GD,rfl,rfl,HY,fH⟩
 obtain ⟨b5,rfl,rfl,HY,fH⟩:=hcut;generalize wc=w2 at *;have y1:=HY.o.cell (i:=1) (u:=.int .i64 ym) (by simp);have y4:=HY.o.cell (i:=4) (u:=.int .u32 yc) (by simp);replace HX:=zh (HX.o.bb fH.o);replace BV:=zh (BV.o.bb fH.o);have rK:=zh (oO.o.trans (fH.o.mono h13));have By:B<=w2.heap.size:=ak (ak hB (ak hz2 oO.o.size)) fH.o.size;have x3:=HX.o.cell (i:=3) rfl;clear fH oO AH;obtain ⟨T,hT⟩:∃ T:Bool,T=(!fo||yc != ck):=⟨_,rfl⟩
 have Mz:xE P.t q=if T=true then 6 else 0:=by
  rw[oB.o,hT]
  cases fo
  ·simp
  by_cases e:yc=ck<;>simp[e]
 have TS:=zh hT;have K0:=zh Mz;clear hT Mz oB;go_upto_region 2 with fail
 go_cut [28] (fun v wx=>v=.bool T/\wx=w2)
 case first =>
  cases fo
  ·have Mv:T=true:=by rw[TS.o];rfl
   subst Mv;go_wp2_with fail;go_meet
   case rel=>exact ⟨rfl,rfl⟩
  have Mv:T=(yc != ck):=by rw[TS.o];rfl
  go_wp2_with fail;go_meet
  case rel=>exact ⟨by rw[Mv],rfl⟩
 obtain ⟨rfl,hwc⟩:=hcut;generalize wc=Yj at *;replace hwc:=hwc.symm;subst hwc;clear x3 y4
 cases T
 rotate_left
 ·have hpl:=k9 (q:=q) (P:=P) p_ hq (by rw[K0.o];rfl);have HF:=zh hpl;have HM:=zh (QT.o w2 rK.o);have HB:Hid (fD B w w2):=zh (fD.of (rK.o.mono hz1) (ak hB hz2));clear hpl NV lL CU TR Ov EG y1;go_upto_region 3 with fail;obtain ⟨jo,jq,gc',L',sL,pd,oT,es',E2,jU,sN,sO⟩:=HM.o;obtain ⟨QJ,QK,sP,GU,GV,_⟩:=zG sO.r;subst sP;have q8:=sN.cell (i:=8) rfl;have eG:=(aj w2.heap.size w2).alloc (ag _) (.cells #[.int .i64 6] 39);have pQ:=zh (sN.bb eG);have lS:=zh (sO.bb eG);have h_:=zh (HB.o.step eG By);have iE:=zh lS.o.r;have rJ:=ak By eG.size;clear eG sN sO HM HB
  go_wp2_with (at_builtin;go_must (refine zP (n:=P.res.length) (m:=1) rfl (.tmp 34) (.tmp 35) 69 rfl kj B rfl iE.o rfl (Rd.jR w2.heap.size w2 rfl 1 [.int .i64 6] 39 1 rfl (by decide)) (fun u hu=>by simp only[bp,bt,bu] at hu;rw[hu];rfl) (by unfold maxLen;omega) (by omega) rJ ?_);intro v3 w3 eB eW hv3;clear hv3;obtain ⟨oa,oc,ev,_,_,_⟩:=zG eB;subst ev;have iA:=pQ.o.fC (fM.row iE.o eW (ag B)) (by decide);have c8:=iA.cell (i:=8) rfl;have f8:=iA.frozen 8);have jP:gO w3 (w3.setCell ⟨b,8,none⟩ (.slice oa (P.res.length+1) oc)) B b 197:=gO.pts jU ⟨_,_,iA⟩ [(8,.slice oa (P.res.length+1) oc)];have nD:=zh ((lS.o.res 6 eW eB).1.ik jP)
  have oQ:Hid (BU (w3.setCell ⟨b,8,none⟩ (.slice oa (P.res.length+1) oc)) b P.t.id P.t.lim P.t.ro jo jq gc' P.eH tk sL oT (.slice oa (P.res.length+1) oc) P.bytes):=zh ((by have h:=iA.set 8 (.slice oa (P.res.length+1) oc);rw[N0] at h;exact h));have jL:=zh ((h_.o.own iE.o rJ eW (by decide)).pts jU [(8,.slice oa (P.res.length+1) oc)] ⟨_,_,iA⟩ (by decide));clear eB eW iA jP c8 f8 q8;go_wp2_with fail;go_ret;exact ⟨by rw[HF.o];try rfl,by rw[HF.o];exact ⟨jo,jq,gc',L',sL,pd,oT,es',_,jU,oQ.o,nD.o⟩,jL.o⟩
 have Mz:xE P.t q=0:=by rw[K0.o];rfl
 have hfo:fo=true:=by
  have h:=TS.o
  cases fo
  ·cases h
  rfl
 subst hfo;rw[bU] at HT;clear TS K0;go_upto_region 5 with fail;clear y1
 go_cut [7] (fun vl wx=>∃ oa oc,vl=.slice oa (zd P.t key).length oc/\Hid (gY wx w2.heap.size (.slice oa (zd P.t key).length oc) (zd P.t key))/\Hid (Below w2.heap.size w2 wx))
 case first =>
  refine vD [eT (.pointer (some ⟨b,0,none⟩)),eT (.pointer (some ⟨b,0,none⟩)),eT (.pointer (some ⟨b,0,none⟩)),eT (zQ P.t.id P.t.lim P.t.ro ga gn gc),eT (.pointer (some ⟨b3,2,none⟩)),eT (.int .u64 key),zK7 w2.heap.size (zd P.t key),zK7 w2.heap.size (zd P.t key)] 85 (by kernel_rfl) (by kernel_rfl) (by kernel_rfl) (by rfl) (by kernel_rfl) (fun f=>by simp[fU,zW,Act.put];exact rfl) ?_ ?_
  ·refine ⟨?_,?_,?_,?_,?_,?_,?_,?_,trivial⟩
   ·intro f w3 hb hd;clear hd;dsimp only;go_wp2_with fail;exact pS rfl (by simp)
   ·intro f w3 hb hd;have d0:f 0=_:=hd 0 (by kernel_rfl);clear hd;dsimp only;rw[d0];go_wp2_with fail;exact pS rfl (by simp)
   ·intro f w3 hb hd;have d1:f 1=_:=hd 1 (by kernel_rfl);clear hd;dsimp only;rw[d1];go_wp2_with fail;exact pS rfl (by simp)
   ·intro f w3 hb hd;have d2:f 2=_:=hd 2 (by kernel_rfl);clear hd;dsimp only;rw[d2];have hx:=BV.o.bb hb;have q0:=hx.cell (i:=0) rfl;have q1:=hx.cell (i:=1) rfl;have q2:=hx.cell (i:=2) rfl;have q3:=hx.cell (i:=3) rfl;clear hx;go_wp2_with fail;exact pS rfl (by simp)
   ·intro f w3 hb hd;clear hd;dsimp only;go_wp2_with fail;exact pS rfl (by simp)
   ·intro f w3 hb hd;have d4:f 4=_:=hd 4 (by kernel_rfl);clear hd;dsimp only;rw[d4];have q2:=(HX.o.bb hb).cell (i:=2) rfl;go_wp2_with fail;exact pS rfl (by simp)
   ·intro f w3 hb hd;have d3:f 3=_:=hd 3 (by kernel_rfl);have d5:f 5=_:=hd 5 (by kernel_rfl);clear hd;dsimp only;rw[d3];rw[d5];go_wp2_with fail;refine (NV.o w3 (rK.o.trans (hb.mono (ak hz2 rK.o.size)))).mono ?_;rintro e w9 ⟨ov,rfl,ho,gy⟩;obtain ⟨qa,qc,rfl,_⟩:=zG ho;have HO:=zh (World.ownsRow.mono ho hb.size);clear ho;go_wp2_with fail;exact pRg gy ⟨qa,qc,rfl,HO.o⟩ (by simp)
   intro f w3 hb hd;obtain ⟨a6,c6,d6,r6⟩:=hd 6 (by kernel_rfl);clear hd;dsimp only;rw[d6];have HO:=zh r6;clear r6;go_wp2_with fail;exact pRg (aj _ _) ⟨a6,c6,rfl,HO.o⟩ (by simp)
  intro f w8 hb hA;obtain ⟨oa,oc,e7,d7⟩:=hA 7 (by simp);clear hA
  try dsimp only
  rw[e7];clear e7;have HO:=zh d7;have eN:=zh hb;clear d7 hb;go_wp2_with fail;go_meet
  case rel=>exact ⟨oa,oc,rfl,HO,eN⟩
 obtain ⟨oa,oc,rfl,HO,fH⟩:=hcut;generalize wc=w3 at *;have f_:=zh (rK.o.trans (fH.o.mono (ak hz2 rK.o.size)));have PQ:B<=w2.heap.size:=By;have JY:B<=w3.heap.size:=ak By fH.o.size;replace HX:=zh (HX.o.bb fH.o);replace HY:=zh (HY.o.bb fH.o);have y1:=HY.o.cell (i:=1) (u:=.int .i64 ym) (by simp);have x2:=HX.o.cell (i:=2) rfl;have x3:=HX.o.cell (i:=3) rfl;clear fH NV BV Ei HY;have P9:=zh (fun x (hx:x∈zd P.t key)=>tW hx);have aoy:=kU P.t key;generalize zd P.t key=OL at *;generalize w2.heap.size=Bo at *;have hroom:=zDj Ga.o 0;rw[show ((eY 0:Nat):Int)=24 by decide] at hroom;have Gq:=zh hroom;clear hroom;go_upto_region 6 with fail
 go_cut [59] (fun v wx=>∃ P1:fP,v=.bool (wO P.t q.key&&!ub P 0)/\(wO P.t q.key=true->ub P 0=true->P1=xR P (uH q))/\(¬ (wO P.t q.key=true/\ub P 0=true)->P1=P)/\Hid (mX wx B b tk P1)/\Hid (fD B w wx)/\Hid (gY wx Bo (.slice oa OL.length oc) OL)/\Hid (eu wx b3 #[.int .i64 rt,.int .i64 rk,.int .u64 key,.int .u32 ck,.slice da dn dc] 63))
 case first =>
  have HMx:=zh (QT.o w3 f_.o);have eO:Hid (fD B w w3):=zh (fD.of (f_.o.mono hz1) (ak hB hz2))
  by_cases hm:ym=1
  ·subst hm;have GZ:wO P.t q.key=true:=by rw[HT.o];rfl
   have QU:=zh GZ;clear GZ;go_wp2_with fail;refine (lL.o w3 f_.o).mono ?_;rintro e w4 ⟨rfl,hmm,hb⟩;have gq:=zh (eO.o.trans hb);have iP:Hid (gY w4 Bo (.slice oa OL.length oc) OL):=zh (hb.QS HO.o (by decide));have jf:=zh (hb.box HX.o (by decide));have Vb:=zh hmm;clear hmm hb x2 x3 y1 HX;go_wp2_with fail;go_meet
   case rel =>
    refine ⟨_,by rw[QU.o,bU],fun _ h=>?_,fun h=>?_,Vb,gq,iP,jf⟩
    ·rw[ah h]
    rw[ai (fun h2=>h ⟨QU.o,h2⟩)]
  have QU:Hid (wO P.t q.key=false):=zh (by rw[HT.o];exact aC hm);have e1:(ym==1)=false:=by simp[hm]
  go_wp2_with fail;go_meet
  case rel=>exact ⟨P,by rw[QU.o,dC],fun h=>absurd h (by rw[QU.o];decide),fun _=>rfl,HMx,eO,HO,HX⟩
 obtain ⟨P1,rfl,jG,MA,Ex,eV,ja,fG⟩:=hcut;generalize wc=w4 at *;clear x2 x3 y1 HX HO f_
 cases hst:(wO P.t q.key&&!ub P 0)
 ·have DG:Kp P.t P1.t/\P1=(if wO P.t q.key=true then xR P (uH q) else P)/\fF 800 P1.t.ep/\P1.eE=P.eE/\P1.res=P.res:=by
   cases GZ:wO P.t q.key
   ·rw[MA (by rw[GZ];exact fun h=>absurd h.1 (by decide)),ai (by decide)];exact ⟨Kp.refl Ls.o,rfl,HLl.o.mono (by decide),rfl,rfl⟩
   rw[GZ,bU] at hst;have hro:ub P 0=true:=by
    cases h:ub P 0
    ·rw[h] at hst;cases hst
    rfl
   rw[jG GZ hro,ah rfl];exact ⟨Ov.o GZ,rfl,EG.o.mono (by decide),rfl,rfl⟩
  have hpl:=kY (P:=P) p_ hq Mz (fun h=>by
   rw[h.1,bU] at hst
   have h2:=Gq.o.2 h.2
   rw[h2] at hst;cases hst)
  obtain ⟨k1,k2,k3,k4,k5⟩:=DG;have hdr:=CU.o;rw[<- k2] at hdr;rw[hdr] at hpl;have HF:=zh hpl;have Cm:=zh (qR (P:=P1) (key:=key) (l:=OL) (M:=M) k3 (by rw[k4];exact oD.o) (fun x hx=>P9.o x hx));have pI:=zh (fun k (hk:k<=OL.length)=>kg (key:=key) k1 TR.o k hk);have HNu:=zh (fun k (hk:k<OL.length)=>zFS (key:=key) k1 TR.o hk);have Gk:=zh (fun k (hk:k<OL.length)=>vA P1 key OL k hk);have nA:=zh (show OL.foldl (yU key) P1=yA P1 key OL OL.length by unfold yA;rw[aS (ag _)]);have mH:=zh k5;rw[nA.o] at HF;have QV:Hid (mX w4 B b tk (yA P1 key OL 0)):=zh (Ex.o);clear hdr hpl k1 k2 k3 k4 k5 jG MA Ex hst CU TR Ov EG lL HT Gq nA;generalize hOn:OL.length=oN at *;clear hOn;have h8:oN<=8:=by omega
  go_wp2_with fail
  go_loopw [8] (fun iv W=>∃ k:Nat,iv=.int .i64 (k:Int)/\k<=oN/\Hid (mX W B b tk (yA P1 key OL k))/\Hid (gY W Bo (.slice oa oN oc) OL)/\Hid (eu W b3 #[.int .i64 rt,.int .i64 rk,.int .u64 key,.int .u32 ck,.slice da dn dc] 63)/\Hid (fD B w W)) (fun iv _=>oN-(intOf iv).toNat)
  case atStart=>exact ⟨0,rfl,aq _,QV,ja,fG,eV⟩
  clear QV ja fG eV;obtain ⟨k,rfl,hk,rW,HO,HX,HB⟩:=hrel;have PO:B<=wr.heap.size:=ak (ak hB hz2) HB.o.size
  by_cases hlt:k<oN
  ·have j1:(k:Int)<(oN:Int):=by omega
   obtain ⟨hI1,hI2,_⟩:=Cm.o k (by omega);obtain ⟨r,hr1,hr2⟩:=HNu.o k (by omega);have Tf:=pI.o k (by omega);have hsu:=Gk.o k (by omega);obtain ⟨og,off,e0,hcell⟩:=gY.atB HO.o hlt;subst e0;have Ad:=zh (fun W (hb:Below wr.heap.size wr W)=>zHE (rW.o.bb hb) (ak PO hb.size) hI1 Tf.v (M+k) (by omega) hI2 (pW OL k) key r hr1 hr2);rw[<- hsu] at Ad;clear hI1 hI2 hr1 hr2 Tf hsu;generalize pW OL k=num at *;go_upto_region 11 with fail;have AZ:=zV (aj wr.heap.size wr);have HOd:=zh (zE HO.o AZ);have Yx:=zh (HX.o.bb AZ);have KR:=zh (HB.o.step AZ PO);have HKd:=zh (Ad.o _ AZ);have x2:=Yx.o.cell (i:=2) rfl;replace hcell:(World.drew wr).cell? ⟨og,off+k,none⟩=some (.int .i64 num):=hcell;clear Ad HO HX HB rW AZ;refine wp_region_still_tail 7 (by kernel_rfl) (by kernel_rfl) ?_
   simp only[dP,List.take_zero,List.drop_succ_cons,List.drop_zero];change wpStill prog _ (World.drew _) _ _ _
   repeat still_step
   refine wpStill_nil ?_;change wpList _ _ _ _ _ (World.drew _);generalize World.drew wr=y1 at *;go_wp2_with fail;refine HKd.o.mono ?_;rintro e y2 ⟨rfl,hm,hb⟩;have A6:=zh hm;have gp:=zh (hb.QS HOd.o (by decide));have fK:=zh (hb.box Yx.o (by decide));have eX:=zh (KR.o.trans hb);clear hm hb HOd Yx KR HKd hcell x2;go_wp2_with fail;exact ⟨⟨k+1,by go_num,by omega,A6,gp,fK,eX⟩,by simp[intOf];omega⟩
  have j1:¬ (k:Int)<(oN:Int):=by omega
  obtain rfl:k=oN:=by omega
  have HM:=rW;have By:=PO;have Yo:(yA P1 key OL k).res.length<=16:=by
   rw[(Cm.o k (by omega)).2.2.2.2.2,mH.o];omega
  clear rW Cm HNu pI Gk HO HX;generalize yA P1 key OL k=st at *;go_upto_region 12 with fail;obtain ⟨jo,jq,gc',L',sL,pd,oT,es',E2,jU,sN,sO⟩:=HM.o;obtain ⟨QJ,QK,sP,GU,GV,_⟩:=zG sO.r;subst sP;have q8:=sN.cell (i:=8) rfl;have eG:=(aj wr.heap.size wr).alloc (ag _) (.cells #[.int .i64 0] 39);have pQ:=zh (sN.bb eG);have lS:=zh (sO.bb eG);have h_:=zh (HB.o.step eG By);have iE:=zh lS.o.r;have rJ:=ak By eG.size;clear eG sN sO HM HB
  go_wp2_with (at_builtin;go_must (refine zP (n:=st.res.length) (m:=1) rfl (.tmp 79) (.tmp 80) 69 rfl kj B rfl iE.o rfl (Rd.jR wr.heap.size wr rfl 1 [.int .i64 0] 39 1 rfl (by decide)) (fun u hu=>by simp only[bp,bt,bu] at hu;rw[hu];rfl) (by unfold maxLen;omega) (by omega) rJ ?_);intro v3 w3 eB eW hv3;clear hv3;obtain ⟨oa,oc,ev,_,_,_⟩:=zG eB;subst ev;have iA:=pQ.o.fC (fM.row iE.o eW (ag B)) (by decide);have c8:=iA.cell (i:=8) rfl;have f8:=iA.frozen 8);have jP:gO w3 (w3.setCell ⟨b,8,none⟩ (.slice oa (st.res.length+1) oc)) B b 197:=gO.pts jU ⟨_,_,iA⟩ [(8,.slice oa (st.res.length+1) oc)];have nD:=zh ((lS.o.res 0 eW eB).1.ik jP)
  have oQ:Hid (BU (w3.setCell ⟨b,8,none⟩ (.slice oa (st.res.length+1) oc)) b st.t.id st.t.lim st.t.ro jo jq gc' st.eH tk sL oT (.slice oa (st.res.length+1) oc) st.bytes):=zh ((by have h:=iA.set 8 (.slice oa (st.res.length+1) oc);rw[N0] at h;exact h));have jL:=zh ((h_.o.own iE.o rJ eW (by decide)).pts jU [(8,.slice oa (st.res.length+1) oc)] ⟨_,_,iA⟩ (by decide));clear eB eW iA jP c8 f8 q8;go_wp2_with fail;go_ret;exact ⟨by rw[HF.o];try rfl,by rw[HF.o];exact ⟨jo,jq,gc',L',sL,pd,oT,es',_,jU,oQ.o,nD.o⟩,jL.o⟩
 have MB:wO P.t q.key=true/\ub P 0=false:=by
  rw[aO,Bool.not_eq_true'] at hst;exact hst
 have hpl:=zCa (P:=P) p_ hq Mz ⟨MB.1,Gq.o.1 MB.2⟩;have HF:=zh hpl;have hM:=Ex.o;rw[MA (fun h=>by rw[MB.2] at h;cases h.2)] at hM;have HM:=zh hM;clear hpl hM;go_wp2_with fail;go_ret;exact ⟨by rw[HF.o];rfl,by rw[HF.o];exact HM.o,eV.o⟩
def zNE (s:fk) (a:Option Addr) (n c:Nat) (L:List GP) (W:World) (hr:fB W (.slice a n c) L) (hg:ey L=s.ep) (hl:fF 1000 s.ep) :
  Calls prog 47 #[zQ s.id s.lim s.ro a n c] W fun e w'=>e=.returned (.bool (zb s))/\Below W.heap.size W w':=by
 have h:=yu s.id s.lim s.ro a n c L W hr (yx (hg▸hl) (by decide));obtain ⟨i,l,r,g⟩:=s;dsimp only at hg h |-;subst hg;exact h
structure sR (W:World) (B:Nat) (P:fP) (kv:Value) (ks:List KP) (nv:Value) (es:List (Nd×Value)) (rv:Value):Prop where
 k:iV W B kv ks
 kk:gV ks=P.eE
 n:gH W B nv es
 nn:es.map (·.1)=P.needs
 r:W.ownsRow B 39 1 rv P.res.length (P.res.map qQ)
def sR.ik {W W':World} {B b:Nat} {P:fP} {kv:Value} {ks:List KP} {nv:Value} {es:List (Nd×Value)} {rv:Value} (h:sR W B P kv ks nv es rv) (ho:gO W W' B b 71):sR W' B P kv ks nv es rv:=
 ⟨h.k.ik ho (by decide) (by decide),h.kk,h.n.ik ho (by decide) (by decide),h.nn,yT h.r ho (by decide)⟩
def sR.nil (W:World) (B:Nat) (s:fk):sR W B (wH s) (.slice none 0 0) [] (.slice none 0 0) [] (.slice none 0 0):=
 ⟨⟨aP _ _ _ _,(fun p hp=>by cases hp),List.Pairwise.nil⟩,rfl,⟨aP _ _ _ _,(fun p hp=>by cases hp)⟩,rfl,aP _ _ _ _⟩
def vL {q:Rq} {r:List Rq} (h:(zq P q).1=true):tx (q::r) P=tx r (zq P q).2:=by
 show (if (zq P q).1=true then _ else _)=_
 rw[ah h]
def uy {q:Rq} {r:List Rq} (h:(zq P q).1=false):tx (q::r) P=(zq P q).2:=by
 show (if (zq P q).1=true then _ else _)=_
 rw[ai (by rw[h];decide)]
def YF {K G:Nat}:∀ (l:List Rq) (P:fP),mE K G P.res.length P->P.res.length<=16->(tx l P).res.length<=16/\mE K G (tx l P).res.length (tx l P)
 |[],P,h,h1=>⟨h1,h⟩
 |q::r,P,h,h1=>by
  have h2:=Ya (q:=q) h;have h3:=(kF P q h1).1
  cases e:(zq P q).1
  ·rw[uy e];exact ⟨h3,h2⟩
  rw[vL e];exact YF r _ h2 h3
abbrev wX (eH:Bool) (take:Int) (kv nv rv:Value):List (Nat×Value):=[(0,.bool eH),(1,.int .i64 take),(2,kv),(3,nv),(4,rv)]
def zFY {W:World} {b:Nat} {r0:Bool} {t0:Int} {k0 n0 v0:Value} (eH:Bool) (take:Int) (kv nv rv:Value) (h:eu W b #[.bool r0,.int .i64 t0,k0,n0,v0] 71) (j:Nat) (u:Value) (hu:[Value.bool eH,.int .i64 take,kv,nv,rv][j]?=some u) :
  (pts W b (wX eH take kv nv rv)).cell? ⟨b,j,none⟩=some u:=by
 have h1:=eu.sets (wX eH take kv nv rv) h;simp only[cZ,dD,aJ,aK,aI] at h1;refine eu.cell h1 ?_;rw[<- Array.getElem?_toList];exact hu
end Go.Proofs.YtcgfilmmokmdjaaGreat
