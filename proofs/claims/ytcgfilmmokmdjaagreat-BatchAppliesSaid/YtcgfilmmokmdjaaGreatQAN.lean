import Derived.Test.YtcgfilmmokmdjaaGreatQAM
import Derived.RangeFuncBox
import Derived.RangeFuncLeaves
import Derived.Shelf.Abstract
import Derived.OwnWalkIn
import Derived.TacticsInMore
import Derived.LoopNIn
import Derived.LoopIn
import Derived.RangeFuncNested
set_option linter.all false
set_option maxRecDepth 100000
set_option maxHeartbeats 32000000
namespace Go.Proofs.YtcgfilmmokmdjaaGreat
open Go.Proofs.Tryz
open Go.RowKit
def TRk (w0:World) (L:List GP) (p:Int×Gn) (e:Ending) (w':World):Prop:=(∃ s,e=.returned (.tuple #[ze p.2.num p.2.rev p.2.mode p.2.size s p.2.m.live p.2.m.ew,.int .i64 p.1])/\((p.2,s)∈L∨(p.2=gX/\s=Sl.nil)))/\Below w0.heap.size w0 w'
def JE (w0:World) (L:List GP) (y:GP) (p:fk×Int) (e:Ending) (w':World):Prop:=(∃ a n c L',e=.returned (.tuple #[zQ p.1.id p.1.lim p.1.ro a n c,.int .i64 p.2])/\w'.ownsRow w0.heap.size 113 14 (.slice a n c) n (L'.flatMap iM)/\(∀ q∈L',q∈L∨q=y)/\ey L'=p.1.ep)/\Below w0.heap.size w0 w'
variable {W:World} {B:Nat} {v:Value}
def zI5 {B' sz n:Nat} {T:TypeId} {xs:List Value} (hB:B<=B') (h:W.ownsRow B' T sz v n xs):W.ownsRow B T sz v n xs:=
 ⟨h.1,h.2.imp id fun ⟨g,cap,cur,e,hb,r⟩=>⟨g,cap,cur,e,ak hB hb,r⟩⟩
variable {w:World} {L:List GP}
def JE.no {w0:World} {y:GP} {c:Int} (h:Below w0.heap.size w0 w):JE w0 L y (yq,c) (.returned (.tuple #[zQ 0 0 false Option.none 0 0,.int .i64 c])) w:=
 ⟨⟨Option.none,0,0,[],rfl,⟨rfl,.inl ⟨rfl,rfl⟩⟩,(fun _ h=>by cases h),rfl⟩,h⟩
def zNv (i l:Int) (r:Bool) (a:Option Addr) (n c:Nat) (L:List GP) (w:World) (h:fB w (.slice a n c) L) (hs:∀ p∈L,∀ j,j<8->(p.1.m.st j).length<=10000) :
  Calls prog 77 #[zQ i l r a n c] w (TRk w L (wU ⟨i,l,r,ey L⟩)):=by
 have fV:=zh (fun W (hb:Below w.heap.size w W)=>zt i l r a n c L W (h.bb hb) hs);have eO:=zh (fp.new w i l r a n c 31);have eP:=zh (zR w i l r a n c 31);have hcs:wU ⟨i,l,r,ey L⟩=if zb ⟨i,l,r,ey L⟩=true then (0,zZ ⟨i,l,r,ey L⟩) else (1,gX):=rfl
 cases hv:zb ⟨i,l,r,ey L⟩
 ·rw[hv] at fV;rw[hv,ai (by decide)] at hcs;have HC:=zh hcs;clear h hs hv hcs
  go_enter func77,ntmps77
  go_upto_region 1 with fail;obtain ⟨W,hW⟩:∃ W,w.alloc (.cells (zM i l r a n c) 31)=W:=⟨_,rfl⟩
  change Code.wp _ _ _ _ ((w.alloc (.cells (zM i l r a n c) 31)).alloc (.cells (zU 0 0 0 0 Sl.nil 0 0) 113));have hsz:W.heap.size=w.heap.size+1:=by rw[<- hW];simp
  rw[hW] at eO eP |-;clear hW;obtain ⟨W2,hW2⟩:∃ W2,W.alloc (.cells (zU 0 0 0 0 Sl.nil 0 0) 113)=W2:=⟨_,rfl⟩
  have HR:Hid (eU W2 (w.heap.size+1) 0 0 0 0 Sl.nil 0 0):=zh (by have:=eU.new W 0 0 0 0 Sl.nil 0 0 113;rw[hW2,hsz] at this;exact this);have eG:=zT W 0 0 0 0 Sl.nil 0 0 113;rw[hW2] at eG |-;have eX:=zh (zA eP.o eG);have fK:=zh (eO.o.bb eG);clear eG hW2;obtain ⟨k0,k1,k2,k3⟩:=fK.o.q;go_wp2_with fail;refine (fV.o _ eX.o).mono ?_;rintro e w1 ⟨rfl,hb1⟩;have eV:=zh (zA eX.o hb1);have fG:=zh (fK.o.bb hb1);have fL:=zh (HR.o.bb hb1);clear k0 k1 k2 k3 hb1 eX fK HR eO eP;have rf:=fL.o.f;obtain ⟨y0,y1,y2,y3,y4,y5,y6,y7,y8,y9,Fo,Fp,Fq,Fs⟩:=fL.o.q;go_wp2_with fail;change bodyPost _ _ _ _ _ (pts w1 (w.heap.size+1) (zS 0 0 0 0 Sl.nil 0 0));have hby:=fL.o.all 0 0 0 0 Sl.nil 0 0;have eN:=zh (zC (B:=w.heap.size) (b:=(w.heap.size+1)) (by omega) (zS 0 0 0 0 Sl.nil 0 0) eV.o)
  generalize pts w1 (w.heap.size+1) (zS 0 0 0 0 Sl.nil 0 0)=V at *;exact au (v:=.tuple #[ze 0 0 0 0 Sl.nil 0 0,.int .i64 1]) (by simp[results,results77,go_sem,hby.q]) rfl ⟨⟨Sl.nil,by rw[HC.o];first|done|rfl,by rw[HC.o];exact .inr ⟨rfl,rfl⟩⟩,eN.o⟩
 rw[hv] at fV;rw[hv,ah rfl] at hcs;have hV:=(zX _).1 hv;have fT:L.length=n:=by
  obtain ⟨_,_,e,_⟩:=h.shape;injection e with _ e _;exact e.symm
 have hl:(ey L).length=n:=by rw[zk,fT]
 have hn:1<=n/\n<=8:=by have:=hV.len;simp only[hl] at this;exact this
 obtain ⟨j,rfl⟩:∃ j,n=j+1:=⟨n-1,by omega⟩
 rw[wZ fT] at hcs;have HC:=zh hcs;have jC:=zh h;have hmem:=yP (l:=L) (i:=j) (by omega);have lz:=zh hmem;have Fu:=zh (hs _ hmem);clear hV fT hl hv h hs hmem hcs;obtain ⟨b,off,rfl,hg⟩:=jC.o.at (show j<j+1 by omega);have HG:=zh hg;clear hg jC;generalize pat L j=p at *;obtain ⟨⟨num,rev,md,sz,⟨f,LV,GA⟩⟩,s⟩:=p;dsimp only at *
 go_enter func77,ntmps77
 go_upto_region 1 with fail;obtain ⟨W,hW⟩:∃ W,w.alloc (.cells (zM i l r (some ⟨b,off,none⟩) (j+1) c) 31)=W:=⟨_,rfl⟩
 change Code.wp _ _ _ _ ((w.alloc (.cells (zM i l r (some ⟨b,off,none⟩) (j+1) c) 31)).alloc (.cells (zU 0 0 0 0 Sl.nil 0 0) 113));have hsz:W.heap.size=w.heap.size+1:=by rw[<- hW];simp
 rw[hW] at eO eP |-;clear hW;obtain ⟨W2,hW2⟩:∃ W2,W.alloc (.cells (zU 0 0 0 0 Sl.nil 0 0) 113)=W2:=⟨_,rfl⟩
 have HR:Hid (eU W2 (w.heap.size+1) 0 0 0 0 Sl.nil 0 0):=zh (by have:=eU.new W 0 0 0 0 Sl.nil 0 0 113;rw[hW2,hsz] at this;exact this);have eG:=zT W 0 0 0 0 Sl.nil 0 0 113;rw[hW2] at eG |-;have eX:=zh (zA eP.o eG);have fK:=zh (eO.o.bb eG);clear eG hW2;obtain ⟨k0,k1,k2,k3⟩:=fK.o.q;go_wp2_with fail;refine (fV.o _ eX.o).mono ?_;rintro e w1 ⟨rfl,hb1⟩;have eV:=zh (zA eX.o hb1);have fG:=zh (fK.o.bb hb1);have fL:=zh (HR.o.bb hb1);clear k0 k1 k2 k3 hb1 eX fK HR eO eP;have rG:=zh (HG.o.bb eV.o);clear HG fV;have j3:IntKind.i64.wrap (j:Int)=(j:Int):=aF _ (by omega);have i2:(j:Int)<((j+1:Nat):Int):=by omega
 have v3:=fG.o.c3;obtain ⟨g0,g1,g2,g3,g4,g5,g6,g7,g8,g9,g10,g11,g12,g13⟩:=rG.o.q
 try dsimp only at g0 g1 g2 g3 g4 g5 g6 g7 g8 g9 g10 g11 g12 g13
 have rf:=fL.o.f;obtain ⟨y0,y1,y2,y3,y4,y5,y6,y7,y8,y9,Fo,Fp,Fq,Fs⟩:=fL.o.q;go_wp2_with fail;change bodyPost _ _ _ _ _ (pts w1 (w.heap.size+1) (zS num rev md sz s LV GA));have hby:=fL.o.all num rev md sz s LV GA;have eN:=zh (zC (B:=w.heap.size) (b:=(w.heap.size+1)) (by omega) (zS num rev md sz s LV GA) eV.o);generalize pts w1 (w.heap.size+1) (zS num rev md sz s LV GA)=V at *;exact au (v:=.tuple #[ze num rev md sz s LV GA,.int .i64 0]) (by simp[results,results77,go_sem,hby.q]) rfl ⟨⟨s,by rw[HC.o];first|done|rfl,by rw[HC.o];exact .inl lz.o⟩,eN.o⟩
def zJ5 (i l:Int) (r:Bool) (a:Option Addr) (n c:Nat) (L:List GP) (w:World) (h:fB w (.slice a n c) L) (hs:∀ p∈L,∀ j,j<8->(p.1.m.st j).length<=10000) (y:GP) (hy:fN w y.2 y.1.m.st) (sK:∀ j,j<8->(y.1.m.st j).length<=10000) (hv:zb ⟨i,l,r,ey L⟩=false) :
  Calls prog 44 #[zQ i l r a n c,ze y.1.num y.1.rev y.1.mode y.1.size y.2 y.1.m.live y.1.m.ew] w (JE w L y (yS ⟨i,l,r,ey L⟩ y.1)):=by
 have fV:=zh (fun W (hb:Below w.heap.size w W)=>zt i l r a n c L W (h.bb hb) hs);have HC:=zh (show yS ⟨i,l,r,ey L⟩ y.1=(yq,1) by unfold yS;rw[hv];rfl);rw[hv] at fV;clear h hs hv hy sK
 go_enter func44,ntmps44
 go_upto_region 1 with fail;change Code.wp _ _ _ _ (((w.alloc (.cells (zM i l r a n c) 31)).alloc (.cells (zU y.1.num y.1.rev y.1.mode y.1.size y.2 y.1.m.live y.1.m.ew) 113)).alloc (.cells (zM 0 0 false none 0 0) 31));obtain ⟨W,hW,fJ,hbg,hbr,fS⟩:=uE w i l r a n c y 31 113;rw[hW];have HX:=zh fJ;have HG:=zh hbg;have HR:=zh hbr;have HB:=zh fS;clear hW fJ hbg hbr fS;obtain ⟨k0,k1,k2,k3⟩:=HX.o.q;go_wp2_with fail;refine (fV.o _ HB.o).mono ?_;rintro e w1 ⟨rfl,hb⟩;replace HX:=zh (HX.o.bb hb);replace HR:=zh (HR.o.bb hb);replace HB:=zh (zA HB.o hb);clear hb;clear k0 k1 k2 k3;obtain ⟨z0,z1,z2,z3⟩:=HR.o.q;have zf:=HR.o.f;go_wp2_with fail;change bodyPost _ _ _ _ _ (pts w1 (w.heap.size+2) (zI 0 0 false none 0 0));have hby:=HR.o.all 0 0 false none 0 0
 have eN:=zh (zC (B:=w.heap.size) (b:=(w.heap.size+2)) (by omega) (zI 0 0 false none 0 0) HB.o);generalize pts w1 (w.heap.size+2) (zI 0 0 false none 0 0)=V at *;exact au (v:=.tuple #[zQ 0 0 false none 0 0,.int .i64 1]) (by simp[results,results44,go_sem,hby.c0,hby.c1,hby.c2,hby.c3]) rfl (by rw[HC.o];exact JE.no eN.o)
def zI3 (i l:Int) (r:Bool) (a:Option Addr) (n c:Nat) (L:List GP) (w:World) (h:fB w (.slice a n c) L) (hs:∀ p∈L,∀ j,j<8->(p.1.m.st j).length<=10000) (y:GP) (hy:fN w y.2 y.1.m.st) (sK:∀ j,j<8->(y.1.m.st j).length<=10000) (hv:zb ⟨i,l,r,ey L⟩=true) :
  Calls prog 44 #[zQ i l r a n c,ze y.1.num y.1.rev y.1.mode y.1.size y.2 y.1.m.live y.1.m.ew] w (JE w L y (yS ⟨i,l,r,ey L⟩ y.1)):=by
 have fV:=zh (fun W (hb:Below w.heap.size w W)=>zt i l r a n c L W (h.bb hb) hs);have hV:=(zX _).1 hv;have fT:L.length=n:=by
  obtain ⟨_,_,e,_⟩:=h.shape;injection e with _ e _;exact e.symm
 have hl:(ey L).length=n:=by rw[zk,fT]
 have hn:1<=n/\n<=8:=by have:=hV.len;simp only[hl] at this;exact this
 have HC:=zh (show yS ⟨i,l,r,ey L⟩ y.1=(if tI L y.1.num n=true then (if zb ⟨i,l,r,ey (vu L y)⟩=true then (⟨i,l,r,ey (vu L y)⟩,0) else (yq,1)) else (yq,6)) by
  unfold yS;rw[ah hv,zCv L y.1.num n fT.symm,zF5])
 rw[hv] at fV
 have rI:=zh (show ∀ W,Below w.heap.size w W->∀ p∈vu L y,fN W p.2 p.1.m.st from fun W hb p hp=>by
  rcases qT hp with hp|rfl
  ·exact (h.m p hp).bb hb
  exact hy.bb hb)
 have iu:=zh (show ∀ p∈vu L y,∀ j,j<8->(p.1.m.st j).length<=10000 from fun p hp=>by
  rcases qT hp with hp|rfl
  ·exact hs p hp
  exact sK)
 have jB:=zh (show n=(vu L y).length by rw[ux,fT]);have FW:=zh (zDB L y);have IL:=zh (zFW L y n fT.symm);have u_:=zh (fun k=>show n=(vF L y k).length by rw[zCi,fT]);have HKp:=zh (fun k (hk:k<n)=>zEH (L:=L) (k:=k) (by omega) y);have JB:=zh (fun k (hk:k<n)=>show ((pat L k).1.num=y.1.num->vF L y (k+1)=(vF L y k).set k y)/\((pat L k).1.num≠y.1.num->vF L y (k+1)=vF L y k) from ⟨fun e=>by rw[zAy (by omega),ah e],fun e=>zDc (by omega) y e⟩);have KI:=zh (fun k (hk:k<n)=>zDG (L:=L) (k:=k) (by omega) y.1.num);have HM0:Hid (tI L y.1.num 0=false):=zh (rfl)
 have j_:=zh (fun W (hb:Below w.heap.size w W)=>show Rd W 14 (.slice a n c) n (L.flatMap iM) from by
  have h1:=(jy.bb h.r hb).2
  rwa [fT] at h1)
 have jO:=zh (S5 L);clear h hs hv hV fT hl hy sK;obtain ⟨⟨num,rev,md,sz,⟨f,LV,GA⟩⟩,s⟩:=y;dsimp only at *
 go_enter func44,ntmps44
 go_upto_region 1 with fail;change Code.wp _ _ _ _ (((w.alloc (.cells (zM i l r a n c) 31)).alloc (.cells (zU num rev md sz s LV GA) 113)).alloc (.cells (zM 0 0 false none 0 0) 31));obtain ⟨W,hW,fJ,hbg,hbr,fS⟩:=uE w i l r a n c (⟨num,rev,md,sz,⟨f,LV,GA⟩⟩,s) 31 113;rw[hW];have HX:=zh fJ;have HG:=zh hbg;have HR:=zh hbr;have HB:=zh fS;clear hW fJ hbg hbr fS;have hB0:w.heap.size+3<=W.heap.size:=by have:=HR.o.lt;omega
 dsimp only at HG;obtain ⟨k0,k1,k2,k3⟩:=HX.o.q;go_wp2_with fail;refine (fV.o _ HB.o).mono ?_;rintro e w1 ⟨rfl,hb⟩;replace HX:=zh (HX.o.bb hb);replace HG:=zh (HG.o.bb hb);replace HR:=zh (HR.o.bb hb);replace HB:=zh (zA HB.o hb);have hB1:=ak hB0 hb.size;clear hb fV;clear k0 k1 k2 k3;have k3:=HX.o.c3;obtain ⟨w2,hw2⟩:∃ w2,w1.alloc (.cells #[] 113)=w2:=⟨_,rfl⟩
 have D_:=cT (e:=113) (size:=14) w1 #[] 0 (ag w1.heap.size) (by decide) rfl;have eG:Below w1.heap.size w1 w2:=hw2▸(aj w1.heap.size w1).alloc (ag _) (.cells #[] 113);rw[hw2] at D_;have Gt:=zA HB.o eG;replace k3:=(HX.o.bb eG).c3;go_wp2_with (at_builtin;go_must (refine zP rfl (.tmp 12) (.tmp 14) 29 rfl NJ w1.heap.size rfl D_ rfl (j_.o w2 Gt) jO.o (by unfold maxLen;omega) (by omega) eG.size ?_;intro v3 w3 eB eW hv3;clear hv3;rw[aN,bV] at eB;obtain ⟨ra,rc,rfl,_⟩:=zG eB;have hb3:=zK eG D_ eG.size eW;replace k3:=(HX.o.bb hb3).c3;have kf:=(HX.o.bb hb3).f));obtain ⟨g,rfl,hgB,rV⟩:=uB eB (by omega);have jf:Hid (fp (pts w3 w.heap.size [(3,.slice (some ⟨g,0,none⟩) n rc)]) w.heap.size i l r (some ⟨g,0,none⟩) n rc):=zh ((HX.o.bb hb3).Ds (some ⟨g,0,none⟩) n rc)
 have Fl:=zh ((HG.o.bb hb3).eL (c:=w.heap.size) (by omega) [(3,.slice (some ⟨g,0,none⟩) n rc)]);have lB:=zh ((HR.o.bb hb3).eL (d:=w.heap.size) (by omega) [(3,.slice (some ⟨g,0,none⟩) n rc)]);have gq:=zh (zC (B:=w.heap.size) (b:=w.heap.size) (ag _) [(3,.slice (some ⟨g,0,none⟩) n rc)] (zA HB.o hb3));have iP:=zh (xY (b:=w.heap.size) (by omega) eB [(3,.slice (some ⟨g,0,none⟩) n rc)]);have hg9:w.heap.size+3<=g:=by omega
 clear HX HG HR HB hb3 eB eW D_ eG Gt j_ jO k3 kf hw2 rV;change Code.wp _ _ _ _ (pts w3 w.heap.size [(3,.slice (some ⟨g,0,none⟩) n rc)]);generalize (pts w3 w.heap.size [(3,.slice (some ⟨g,0,none⟩) n rc)])=w4 at *;rw[<- FW.o] at iP
 go_loopw [6,7] (fun fv iv V=>∃ (k:Nat) (m:Bool),iv=.int .i64 (k:Int)/\fv=.bool m/\k<=n/\Hid (m=tI L num k)/\Hid (V.ownsRow w1.heap.size 113 14 (.slice (some ⟨g,0,none⟩) n rc) n ((vF L (((⟨num,rev,md,sz,⟨f,LV,GA⟩⟩:Gn),s):GP) k).flatMap iM))/\Hid (fp V w.heap.size i l r (some ⟨g,0,none⟩) n rc)/\Hid (eU V (w.heap.size+1) num rev md sz s LV GA)/\Hid (fp V (w.heap.size+2) 0 0 false none 0 0)/\Hid (Below w.heap.size w V)) (fun _ iv _=>n-(intOf iv).toNat)
 case atStart=>exact ⟨0,false,rfl,rfl,aq _,zh HM0.o.symm,iP,jf,Fl,lB,gq⟩
 obtain ⟨k,m,rfl,rfl,hk,Hm,HO,HX,HG,HR,HB⟩:=hrel;clear jf Fl lB gq iP;have k3:=HX.o.c3
 by_cases hlt:k<n
 ·have i1:(k:Int)<(n:Int):=by omega
  have hat:=PJ HO.o (u_.o k) hlt;rw[HKp.o k hlt] at hat;have q0:=HG.o.n0;have EL:=JB.o k hlt;have JC:=KI.o k hlt;have OJ:=zh (show k<(vF L (((⟨num,rev,md,sz,⟨f,LV,GA⟩⟩:Gn),s):GP) k).length by rw[<- u_.o k];exact hlt)
  by_cases gN:(pat L k).1.num=num
  ·have Ex:=zh (show true=tI L num (k+1) by rw[JC,aD gN,Bool.or_true]);have HKe:=zh (EL.1 gN);clear EL JC;have c0:=hat.n0;rw[gN] at c0;go_upto_region 8 with fail;replace k3:=zB k3;replace c0:=zB c0;replace q0:=zB q0;refine zD (by kernel_rfl) (by kernel_rfl) ?_
   repeat (go_big_quiet_step (fail))
   refine ay ?_;intro _ hw';obtain ⟨q,hw'⟩:=hw';subst hw';have hat:=hat.bb q.h;replace HO:=zh (zE HO.o q.h);replace HX:=zh (HX.o.bb q.h);replace HG:=zh (HG.o.bb q.h);replace HR:=zh (HR.o.bb q.h);replace HB:=zh (zA HB.o q.h);clear k3 c0 q0;generalize q.w'=v0 at *;clear q;have hst:=qi HO.o k OJ.o (((⟨num,rev,md,sz,⟨f,LV,GA⟩⟩:Gn),s):GP);rw[<- HKe.o] at hst;have ja:=zh hst.1;have rG:=zh (HG.o.l7 hst.2 (by omega));have fG:=zh (HX.o.l7 hst.2 (by omega));have fL:=zh (HR.o.l7 hst.2 (by omega));have eV:=zh (zC (B:=w.heap.size) (b:=g) (by omega) (t_ (k*14) num rev md sz s LV GA) HB.o);have hfr:=xu HO.o;have k3:=HX.o.c3;clear hst;have JD:=zh (hat.there hfr);clear hat hfr;obtain ⟨u0,u1,u2,u3,u4,u5,u6,u7,u8,u9,u10,u11,u12,u13⟩:=HG.o.q
   go_wp2_with ((with_reducible refine wpList_store_mid ?_ 113 (.tmp 37) (.tmp 36) ?_ g (k*14) (zU num rev md sz s LV GA) ?_ ?_ ?_ ?_ ?_ ?_);rfl;rfl;rfl;rfl;exact JD.o;exact zHz;exact qP _ _ _ _ _ _ _;rw[qJ]);exact ⟨⟨k+1,true,by go_num,rfl,by omega,Ex,ja,fG,rG,fL,eV⟩,by simp[intOf];omega⟩
  have Ex:=zh (show m=tI L num (k+1) by rw[JC,aC gN,Bool.or_false];exact Hm.o);have ja:=HO;rw[<- EL.2 gN] at ja;have c0:=hat.n0;have hne:((pat L k).1.num==num)=false:=by simp[gN]
  clear hat EL JC;generalize (pat L k).1.num=pn at *;go_upto_region 8 with fail;replace k3:=zB k3;replace c0:=zB c0;replace q0:=zB q0;refine zD (by kernel_rfl) (by kernel_rfl) ?_
  repeat (go_big_quiet_step (fail))
  refine ay ?_;intro _ hw';obtain ⟨q,hw'⟩:=hw';subst hw';replace ja:=zh (zE ja.o q.h);replace HX:=zh (HX.o.bb q.h);replace HG:=zh (HG.o.bb q.h);replace HR:=zh (HR.o.bb q.h);replace HB:=zh (zA HB.o q.h);clear k3 c0 q0;generalize q.w'=v0 at *;clear q;go_wp2_with fail;exact ⟨⟨k+1,m,by go_num,rfl,by omega,Ex,ja,HX,HG,HR,HB⟩,by simp[intOf];omega⟩
 have i1:¬ (k:Int)<(n:Int):=by omega
 obtain rfl:k=n:=by omega
 rw[IL.o] at HO;have hm:=Hm.o;rw[<- hm] at HC;clear hm Hm JB KI HKp u_ FW HM0 hlt hk IL
 cases m
 ·have AU:=zh (HC.o.trans (ai (by decide)));clear HC;obtain ⟨z0,z1,z2,z3⟩:=HR.o.q;have zf:=HR.o.f;go_wp2_with fail;change bodyPost _ _ _ _ _ (pts wr (w.heap.size+2) (zI 0 0 false none 0 0));have hby:=HR.o.all 0 0 false none 0 0;have eN:=zh (zC (B:=w.heap.size) (b:=(w.heap.size+2)) (by omega) (zI 0 0 false none 0 0) HB.o);generalize pts wr (w.heap.size+2) (zI 0 0 false none 0 0)=V at *;exact au (v:=.tuple #[zQ 0 0 false none 0 0,.int .i64 6]) (by simp[results,results44,go_sem,hby.c0,hby.c1,hby.c2,hby.c3]) rfl (by rw[AU.o];exact JE.no eN.o)
 have AU:=HC.o.trans (ah rfl);have CZ:=zh (uk HO.o jB.o (rI.o wr HB.o));have BK:=zh (zt i l r (some ⟨g,0,none⟩) k rc (vu L (((⟨num,rev,md,sz,⟨f,LV,GA⟩⟩:Gn),s):GP)) wr CZ.o iu.o);have Cq:=HO;clear HC HO;have k0:=HX.o.c0;have k1:=HX.o.c1;have k2:=HX.o.c2
 cases FA:zb ⟨i,l,r,ey (vu L (((⟨num,rev,md,sz,⟨f,LV,GA⟩⟩:Gn),s):GP))⟩
 ·rw[FA] at BK AU;have HC:=zh (AU.trans (ai (by decide)));clear AU FA;go_wp2_with fail;refine BK.o.mono ?_;rintro e v1 ⟨rfl,hb⟩;replace HR:=zh (HR.o.bb hb);replace HB:=zh (zA HB.o hb);clear hb k0 k1 k2 k3 BK CZ HX HG;obtain ⟨z0,z1,z2,z3⟩:=HR.o.q;have zf:=HR.o.f;go_wp2_with fail;change bodyPost _ _ _ _ _ (pts v1 (w.heap.size+2) (zI 0 0 false none 0 0));have hby:=HR.o.all 0 0 false none 0 0;have eN:=zh (zC (B:=w.heap.size) (b:=(w.heap.size+2)) (by omega) (zI 0 0 false none 0 0) HB.o);generalize pts v1 (w.heap.size+2) (zI 0 0 false none 0 0)=V at *;exact au (v:=.tuple #[zQ 0 0 false none 0 0,.int .i64 1]) (by simp[results,results44,go_sem,hby.c0,hby.c1,hby.c2,hby.c3]) rfl (by rw[HC.o];exact JE.no eN.o)
 rw[FA] at BK AU;have HC:=zh (AU.trans (ah rfl));clear AU FA;go_wp2_with fail;refine BK.o.mono ?_;rintro e v1 ⟨rfl,hb⟩;replace HX:=zh (HX.o.bb hb);replace HR:=zh (HR.o.bb hb);replace HB:=zh (zA HB.o hb);replace Cq:=zh (zE Cq.o hb);clear hb k0 k1 k2 k3 BK HG;obtain ⟨k0,k1,k2,k3⟩:=HX.o.q;obtain ⟨z0,z1,z2,z3⟩:=HR.o.q;have zf:=HR.o.f;go_wp2_with fail;change bodyPost _ _ _ _ _ (pts v1 (w.heap.size+2) (zI i l r (some ⟨g,0,none⟩) k rc));have rR:=zh (zI5 (by omega) (xY (b:=w.heap.size+2) (by omega) Cq.o (zI i l r (some ⟨g,0,none⟩) k rc)):(pts v1 (w.heap.size+2) (zI i l r (some ⟨g,0,none⟩) k rc)).ownsRow w.heap.size _ _ _ _ _);have hby:=HR.o.all i l r (some ⟨g,0,none⟩) k rc;have eN:=zh (zC (B:=w.heap.size) (b:=(w.heap.size+2)) (by omega) (zI i l r (some ⟨g,0,none⟩) k rc) HB.o)
 generalize pts v1 (w.heap.size+2) (zI i l r (some ⟨g,0,none⟩) k rc)=V at *;exact au (v:=.tuple #[zQ i l r (some ⟨g,0,none⟩) k rc,.int .i64 0]) (by simp[results,results44,go_sem,hby.c0,hby.c1,hby.c2,hby.c3]) rfl (by rw[HC.o];exact ⟨⟨_,k,rc,vu L (((⟨num,rev,md,sz,⟨f,LV,GA⟩⟩:Gn),s):GP),rfl,rR.o,fun _ hq=>qT hq,rfl⟩,eN.o⟩)
def zNX (i l:Int) (r:Bool) (a:Option Addr) (n c:Nat) (L:List GP) (w:World) (h:fB w (.slice a n c) L) (hs:∀ p∈L,∀ j,j<8->(p.1.m.st j).length<=10000) (y:GP) (hy:fN w y.2 y.1.m.st) (sK:∀ j,j<8->(y.1.m.st j).length<=10000) :
  Calls prog 44 #[zQ i l r a n c,ze y.1.num y.1.rev y.1.mode y.1.size y.2 y.1.m.live y.1.m.ew] w (JE w L y (yS ⟨i,l,r,ey L⟩ y.1)):=by
 cases hv:zb ⟨i,l,r,ey L⟩
 ·exact zJ5 i l r a n c L w h hs y hy sK hv
 exact zI3 i l r a n c L w h hs y hy sK hv
open Go.Shelf
attribute [local go_sem] Oper.semAt_some
def xO (len k:Nat):List Nat:=(List.range k).map fun j=>len-1-j
def ud (len k:Nat):xO len (k+1)=xO len k++[len-1-k]:=by simp[xO,List.range_succ]
def vV (len k:Nat):(xO len k).length=k:=by simp[xO]
def Ea (n₀ Bs:Nat) (W W':World):Prop:=Below n₀ W W'/\∀ v,W.cell? ⟨Bs,0,none⟩=some v->W'.cell? ⟨Bs,0,none⟩=some v
def Ea.refl (n₀ Bs:Nat) (W:World):Ea n₀ Bs W W:=⟨aj _ _,fun _ h=>h⟩
def Ea.trans {n₀ Bs:Nat} {A B C:World} (h:Ea n₀ Bs A B) (k:Ea n₀ Bs B C):Ea n₀ Bs A C:=⟨h.1.trans k.1,fun v hv=>k.2 v (h.2 v hv)⟩
def Ea.put {n₀ Bs:Nat} (hn:n₀<=w.heap.size) (hB:Bs<w.heap.size) (W:World) (l:Nat) (o o':Obj) (hl:w.heap.size<=l) (h:W.heap[l]?=some o) (h1:o.isCells=false) (h2:o.isWalk=false):Ea n₀ Bs W (W.putObj l o'):=
 ⟨belowK_b hn W l o o' hl h h1 h2,fun v hv=>((belowK_b (n₀:=Bs+1) (w:=w) (by omega) W l o o' hl h h1 h2).cell (p:=⟨Bs,0,none⟩) (dy _)).trans hv⟩
def zJq (F:Fence) (n:Nat) (hf:F.fn 143) (hro:F.round=none) (hn:1<=n) (l Bs n₀ b off len cap:Nat) (L:List GP) (hlen:len<=8) (hb:b<n₀) (J Jx:List Nat->World->Prop)
  (hY:∀ pre (x:Nat) W,J pre W->pre.length<len->YieldAt F (n-1) prog l #[.int .i64 (x:Int),VG (pat L x)] W fun e W' =>
   (e=.returned (.bool true)/\J (pre++[x]) W'/\Ea n₀ Bs W W')∨(e=.returned (.bool false)/\Jx (pre++[x]) W'))
  (W:World) (IG:W.cell? ⟨Bs,0,none⟩=some (.slice (some ⟨b,off,none⟩) len cap)) (hc:∀ j,j<len->q_ W b (off+j*14) (pat L j)) (h0:J [] W) :
  CallsIn F n prog 143 #[.func (.yield l) #[] #[],.pointer (some ⟨Bs,0,none⟩)] W fun e W'=>(∃ v,e=.returned v) /\
   ((∃ ys,ys=xO len len/\J ys W')∨(∃ pre,(∃ k,k<=len/\pre=xO len k)/\Jx pre W')):=by
 refine callsIn_of_wp func143 rfl hf ?_ hro;simp only[ntmps143,cD,aW,dK,Nat.reduceAdd,Nat.reduceSub,Array.replicate_succ,Array.replicate_zero,List.push_toArray,List.append_toArray,bV,List.cons_append]
 gi_wp2
 gi_loopw [3] (fun i wr=>∃ k:Nat,k<=len/\i=.int .i64 ((len:Int)-1-(k:Int))/\J (xO len k) wr/\Ea n₀ Bs W wr)
  (fun i _=>(intOf i+1).toNat)
 case atStart=>exact ⟨0,aq _,by simp[aF _ (show -9223372036854775808<=(len:Int)-1/\(len:Int)-1<=9223372036854775807 by omega)],h0,Ea.refl _ _ _⟩
 obtain ⟨k,hk,rfl,hJs,pO⟩:=hrel;have PO:=pO.2 _ IG
 by_cases hlt:k<len
 ·obtain ⟨j,hj⟩:∃ j,k+1+j=len:=⟨len-1-k,by omega⟩
  have hjk:len-1-k=j:=by omega
  obtain ⟨fn,tmps,assign,body,hy,hR⟩:=hY _ (len-1-k) wr hJs (by rw[vV];exact hlt);have ej:(len:Int)-1-(k:Int)=(j:Int):=by omega
  rw[ej];rw[hjk] at hy hR;have i2:(j:Int)<(len:Int):=by omega
  have g0:=(pO.1.cell (p:=⟨b,off+j*14,none⟩) hb).trans (hc j (by omega)).n0;have g1:=(pO.1.cell (p:=⟨b,off+j*14+1,none⟩) hb).trans (hc j (by omega)).n1;have g2:=(pO.1.cell (p:=⟨b,off+j*14+2,none⟩) hb).trans (hc j (by omega)).n2;have g3:=(pO.1.cell (p:=⟨b,off+j*14+3,none⟩) hb).trans (hc j (by omega)).n3;have g4:=(pO.1.cell (p:=⟨b,off+j*14+4,none⟩) hb).trans (hc j (by omega)).c0;have g5:=(pO.1.cell (p:=⟨b,off+j*14+5,none⟩) hb).trans (hc j (by omega)).c1;have g6:=(pO.1.cell (p:=⟨b,off+j*14+6,none⟩) hb).trans (hc j (by omega)).c2;have g7:=(pO.1.cell (p:=⟨b,off+j*14+7,none⟩) hb).trans (hc j (by omega)).c3;have g8:=(pO.1.cell (p:=⟨b,off+j*14+8,none⟩) hb).trans (hc j (by omega)).c4;have g9:=(pO.1.cell (p:=⟨b,off+j*14+9,none⟩) hb).trans (hc j (by omega)).c5
  have g10:=(pO.1.cell (p:=⟨b,off+j*14+10,none⟩) hb).trans (hc j (by omega)).c6;have g11:=(pO.1.cell (p:=⟨b,off+j*14+11,none⟩) hb).trans (hc j (by omega)).c7;have g12:=(pO.1.cell (p:=⟨b,off+j*14+12,none⟩) hb).trans (hc j (by omega)).cl;have g13:=(pO.1.cell (p:=⟨b,off+j*14+13,none⟩) hb).trans (hc j (by omega)).cg
  gi_wp2
  refine hR.mono ?_;rintro e W3 (⟨rfl,hJ3,hk3⟩|⟨rfl,hJx3⟩)
  ·gi_wp2
   go_roundw
   case rel=>exact ⟨k+1,by omega,by first|(simp;done)|(simp;omega),by rw[ud,hjk];exact hJ3,pO.trans hk3⟩
   case measure=>first|(simp[intOf];done)|(simp[intOf];omega)
  gi_wp2
  refine au (results_none rfl _ _ _) rfl ?_;exact ⟨⟨_,rfl⟩,.inr ⟨_,⟨k+1,by omega,by rw[ud,hjk]⟩,hJx3⟩⟩
 obtain rfl:k=len:=by omega
 have ej:(k:Int)-1-(k:Int)=-1:=by omega
 rw[ej]
 gi_wp2
 go_end0;exact ⟨⟨_,rfl⟩,.inl ⟨_,rfl,hJs⟩⟩
def zED (a:Option Addr) (n c:Nat) (w:World):Calls prog 105 #[.slice a n c] w fun e w'=>e=.returned (.func (.func 143) #[] #[.pointer (some ⟨w.heap.size,0,none⟩)])/\w'=w.alloc (.cells #[.slice a n c] 25):=by
 go_enter func105,ntmps105
 go_wp2_with fail;go_ret;exact ⟨rfl,rfl⟩
def zGt (F:Fence) (n:Nat) (hf:F.fn 143) (hro:F.round=none) (hn:1<=n) (Bs n₀ b off len cap:Nat) (L:List GP) (hlen:len<=8) (hb:b<n₀) (w:World)
  (IG:w.cell? ⟨Bs,0,none⟩=some (.slice (some ⟨b,off,none⟩) len cap)) (hc:∀ j,j<len->q_ w b (off+j*14) (pat L j)) :
  SeqStopsK F n prog 143 #[.pointer (some ⟨Bs,0,none⟩)] (fun x:Nat=>#[.int .i64 (x:Int),VG (pat L x)]) (Ea n₀ Bs) (fun ys=>ys=xO len len) (fun pre=>∃ k,k<=len/\pre=xO len k) len w:=fun l J Jx W hW _ _ hY h0 =>
 zJq F n hf hro hn l Bs n₀ b off len cap L hlen hb J Jx hY W (hW.keeps' IG) (fun j hj=>(hc j hj).bb hW) h0
def EN (x:lJ):List Value:=[.int .i64 x.gen,.int .i64 x.mode,.int .i64 x.rev,.int .u64 x.it.key,.int .u32 x.it.ck,.int .i64 x.it.off,.int .i64 x.it.size,.int .i64 (x.at_:Int)]
def zMW (x:lJ):(EN x).length=8:=rfl
def zNK:(prog.info? 138).map (fun i=>(i.zero,i.size,i.bytes))=some (some (.agg #[.int .i64 0,.int .i64 0,.int .i64 0,.int .u64 0,.int .u32 0,.int .i64 0,.int .i64 0,.int .i64 0]),8,64):=by kernel_rfl
abbrev JF (w:World) (v:Value) (l:List lJ):Prop:=jy 8 EN w v l
abbrev Eb (w:World) (base:Nat) (v:Value) (l:List lJ):Prop:=w.ownsRow base 138 8 v l.length (l.flatMap EN)
def zM7 (i l:Int) (r:Bool) (a:Option Addr) (n c:Nat) (L:List GP) (w:World) (h:fB w (.slice a n c) L) (hs:∀ p∈L,∀ j,j<8->(p.1.m.st j).length<=10000) (hv:zb ⟨i,l,r,ey L⟩=false) (key:Int) :
  Calls prog 62 #[zQ i l r a n c,.int .u64 key] w fun e w'=>e=.returned (.slice none 0 0)/\Below w.heap.size w w':=by
 have fV:=zh (fun W (hb:Below w.heap.size w W)=>yu i l r a n c L W (h.bb hb) hs);rw[hv] at fV;have eO:=zh (fp.new w i l r a n c 27);have eP:=zh (zR w i l r a n c 27);clear hv h hs
 go_enter func62,ntmps62
 go_upto_region 1 with fail;obtain ⟨W,hW⟩:∃ W,w.alloc (.cells (zM i l r a n c) 27)=W:=⟨_,rfl⟩
 change Code.wp _ _ _ _ ((w.alloc (.cells (zM i l r a n c) 27)).alloc (.cells #[.int .u64 key] 24));rw[hW] at eO eP |-;clear hW;have pH:=eO.o.lt;have eV:=zh (eP.o.alloc eP.o.size (.cells #[.int .u64 key] 24));have fG:=zh (eO.o.bb ((aj _ W).alloc (ag _) (.cells #[.int .u64 key] 24)));obtain ⟨k0,k1,k2,k3⟩:=fG.o.q;go_wp2_with fail;refine (fV.o _ eV.o).mono ?_;rintro e w1 ⟨rfl,hb1⟩;have eX:=zh (zA eV.o hb1);clear hb1 k0 k1 k2 k3;go_wp2_with fail;go_ret;exact ⟨rfl,eX.o⟩
attribute [local go_sem] Oper.semAt_some
def kI (l:List Gn) (key:Int) (pre:List Nat):List lJ:=pre.flatMap fun n=>match zl (fh l n).m key with|some x=>[⟨(fh l n).num,(fh l n).mode,(fh l n).rev,x,n⟩]|none=>[]
def zJk {l:List Gn} {key:Int} (pre:List Nat) {n:Nat} {x:It} (h:zl (fh l n).m key=some x):kI l key (pre++[n])=kI l key pre++[⟨(fh l n).num,(fh l n).mode,(fh l n).rev,x,n⟩]:=by simp[kI,h]
def zI6 {l:List Gn} {key:Int} (pre:List Nat) {n:Nat} (h:zl (fh l n).m key=none):kI l key (pre++[n])=kI l key pre:=by simp[kI,h]
def zKu (l:List Gn) (key:Int) (pre:List Nat):(kI l key pre).length<=pre.length:=by
 induction pre with
 |nil=>exact ag _
 |cons n pre ih =>
  have e:kI l key (n::pre)=(match zl (fh l n).m key with|some x=>[⟨(fh l n).num,(fh l n).mode,(fh l n).rev,x,n⟩]|none=>[])++kI l key pre:=rfl;rw[e,ax,aW];have:(match zl (fh l n).m key with|some x=>[(⟨(fh l n).num,(fh l n).mode,(fh l n).rev,x,n⟩:lJ)]|none=>[]).length<=1:=by
   cases zl (fh l n).m key<;>simp
  omega
def zGB (n:Nat):xO (n+1) (n+1)=n::xO n n:=by
 unfold xO;rw[List.range_succ_eq_map,List.map_cons,List.map_map,List.cons.injEq];refine ⟨by omega,List.map_congr_left fun j _=>?_⟩;simp only[Function.comp_apply];omega
def zFJ (l:List Gn) (key:Int):∀ n,kI l key (xO n n)=xp l key n
 |0=>rfl
 |n+1=>by
  have ih:=zFJ l key n;rw[zGB,xp,<- ih]
  rfl
def zCC {l:List Gn} {key:Int}:∀ n,∀ x∈xp l key n,x.at_<n
 |0,x,h=>by cases h
 |n+1,x,h=>by
  rw[xp] at h;rcases List.mem_append.1 h with h|h
  ·cases e:zl (fh l n).m key with
   |none=>rw[e] at h;cases h
   |some y=>rw[e] at h;rw[List.mem_singleton.1 h];exact dy n
  exact Nat.lt_succ_of_lt (zCC n x h)
variable {W':World}
def zDU (h:Below W.heap.size W W'):KeepsOthers W W':=⟨h.size,fun k o hk _=>(h.block k (Array.getElem?_eq_some_iff.1 hk).1).trans hk⟩
variable {b:Nat}
def zIZ {n r md z:Int} {s:Sl} {l g:Int} {row:Option Nat} (h:eU W b n r md z s l g) (hg:W.grownBy W' row) (hrow:∀ r,row=some r->∃ o:Obj,W.heap[r]?=some o/\o.isCells=false):eU W' b n r md z s l g:=
 ⟨cell_kept h.n0 hg hrow,cell_kept h.n1 hg hrow,cell_kept h.n2 hg hrow,cell_kept h.n3 hg hrow,fun j hj=>cell_kept (h.c j hj) hg hrow,cell_kept h.cl hg hrow,cell_kept h.cg hg hrow,fun i=>by
  obtain ⟨o,ho,hc⟩:=cells_of_cell h.n0
  have e:=grownBy_keeps_cells hg hrow ho hc
  have e2:=h.f i
  unfold World.frozen? at e2 |-
  rw[e];exact e2⟩
def _root_.Go.Boxed.bb {t:TypeId} (h:Boxed W B t v) (hb:Below W.heap.size W W'):Boxed W' B t v:=(hb.block _ h.lt).trans h
def zHm (W:World) (cs:List Value) (e:TypeId):∀ j u,cs[j]?=some u->(W.alloc (.cells cs.toArray e)).cell? ((⟨W.heap.size,0,none⟩:Addr).add j)=some u:=fun j u h=>by
 rw[yd,aN];have h0:=World.alloc_heap_new W (.cells cs.toArray e);simp only[World.cell?,h0,List.getElem?_toArray];exact h
def zLU (W:World) (k:Nat) (hk:W.heap.size=k) (cs:List Value) (e:TypeId):∀ j u,cs[j]?=some u->(W.alloc (.cells cs.toArray e)).cell? ((⟨k,0,none⟩:Addr).add j)=some u:=by subst hk;exact zHm W cs e
def zNV (x:lJ):∀ u∈EN x,u.oneCell'=true:=by
 intro u hu;simp only[EN,bp,bt,bu] at hu;rcases hu with h|h|h|h|h|h|h|h<;>rw[h]<;>rfl
def zM3 (h:fB w v L) (x:Nat):fN w (pat L x).2 (pat L x).1.m.st:=by
 by_cases hx:x<L.length
 ·exact h.m _ (yP hx)
 have e:pat L x=LH:=by unfold pat;rw[aw,List.getElem?_eq_none (by omega)];rfl
 rw[e];exact Pb w
def zMh (hs:∀ p∈L,∀ j,j<8->(p.1.m.st j).length<=10000) (x:Nat):∀ j,j<8->((pat L x).1.m.st j).length<=10000:=by
 by_cases hx:x<L.length
 ·exact hs _ (yP hx)
 have e:pat L x=LH:=by unfold pat;rw[aw,List.getElem?_eq_none (by omega)];rfl
 rw[e];intro j _;exact aq _
def zMA (i l:Int) (r:Bool) (a:Option Addr) (n c:Nat) (L:List GP) (w:World) (h:fB w (.slice a n c) L) (hs:∀ p∈L,∀ j,j<8->(p.1.m.st j).length<=10000) (hv:zb ⟨i,l,r,ey L⟩=true) (key:Int) :
  Calls prog 62 #[zQ i l r a n c,.int .u64 key] w fun e w'=>∃ v,e=.returned v/\Eb w' w.heap.size v (xp (ey L) key n)/\Below w.heap.size w w':=by
 obtain ⟨EB,oA⟩:=((zX _).1 hv).len;dsimp only at EB oA;rw[zk] at EB oA;obtain rfl:n=L.length:=by obtain ⟨a',cap',e,_⟩:=h.shape;injection e
 obtain ⟨b,off,rfl,hg0⟩:=h.at (show 0<L.length by omega);have HG:=zh (fun j (hj:j<L.length)=>h.O3 hj);have hb:=bW w _ hg0.n0;have WZ:=fun W (hb:Below w.heap.size w W)=>yu i l r (some ⟨b,off,none⟩) L.length c L W (h.bb hb) hs
 have Md:=zh (fun W (hb:Below w.heap.size w W) (x:Nat)=>zF4 (pat L x).2 (pat L x).1.m key W ((zM3 h x).bb hb) (zMh hs x));rw[hv] at WZ;clear hg0 h hs;obtain ⟨i0,hi,hz0,hz1,hz2⟩:=cq zNK;refine (callsIn_wide (n:=20)).1 (callsIn_of_wp_marks func62 rfl trivial ?_ rfl);simp only[ntmps62,cD,aW,dK,Nat.reduceAdd,Nat.reduceSub,Array.replicate_succ,Array.replicate_zero,List.push_toArray,List.append_toArray,bV,List.cons_append];have Gv:=fp.new w i l r (some ⟨b,off,none⟩) L.length c 27;have rE:=zR w i l r (some ⟨b,off,none⟩) L.length c 27;have S7:=Boxed.new (w.alloc (.cells (zM i l r (some ⟨b,off,none⟩) L.length c) 27)) 24 (.int .u64 key);rw[cm] at S7
 gi_wp2_with (first|(refine ⟨trivial,?_⟩;gi_at_call 47;refine (callsIn_wide.2 (WZ _ (rE.alloc (by simp) _))).mono ?_;rintro e w1 ⟨rfl,hb1⟩;have hB1:=zA (rE.alloc (by simp) (.cells #[.int .u64 key] 24)) hb1;have k3:=(((Gv.bb ((aj _ _).alloc (ag _) (.cells #[.int .u64 key] 24))).bb hb1).bb ((aj _ w1).alloc (ag _) (.cells #[.slice none 0 0] 135))).c3;have Me:Boxed w1 (w.heap.size+1) 24 (.int .u64 key):=(hb1.block _ S7.lt).trans S7;clear hb1 Gv rE S7)|(refine ⟨trivial,?_⟩;gi_at_call 105;refine (callsIn_wide.2 (zED _ _ _ _)).mono ?_;rintro e w' ⟨rfl,rfl⟩;clear k3))
 clear WZ;have bO:=(Boxed.new w1 135 (.slice none 0 0)).alloc (.cells #[.slice (some ⟨b,off,none⟩) L.length c] 25);have bS:=Boxed.new (w1.alloc (.cells #[.slice none 0 0] 135)) 25 (.slice (some ⟨b,off,none⟩) L.length c);have bK:=(Me.alloc (.cells #[.slice none 0 0] 135)).alloc (.cells #[.slice (some ⟨b,off,none⟩) L.length c] 25);have Cl:=Me.lt;simp only[cm] at bS;have hB2:Below w.heap.size w ((w1.alloc (.cells #[.slice none 0 0] 135)).alloc (.cells #[.slice (some ⟨b,off,none⟩) L.length c] 25)):=(hB1.alloc hB1.size _).alloc (by have:=hB1.size;simp;omega) _;have hsz:((w1.alloc (.cells #[.slice none 0 0] 135)).alloc (.cells #[.slice (some ⟨b,off,none⟩) L.length c] 25)).heap.size=w1.heap.size+2:=by simp
 obtain ⟨Bo,PQ⟩:∃ Bo,w1.heap.size=Bo:=⟨_,rfl⟩
 obtain ⟨W0,hW0⟩:∃ W0,(w1.alloc (.cells #[.slice none 0 0] 135)).alloc (.cells #[.slice (some ⟨b,off,none⟩) L.length c] 25)=W0:=⟨_,rfl⟩
 rw[PQ] at bO bS hsz Cl |-;rw[hW0] at bO bS bK hB2 hsz |-;clear hW0 Me PQ hB1;clear w1;have W5:=hB2.size;refine wpIn_rangeFunc_ownH rfl (by decide) (gf:=143) (lb:=#[.pointer (some ⟨Bo+1,0,none⟩)]) rfl trivial (enters_of func143 (by kernel_rfl) rfl)
  (zGt Fence.wide (20-1) trivial rfl (by decide) (Bo+1) w.heap.size b off L.length c L oA hb W0 bS.cell (fun j hj=>(HG.o j hj).bb hB2)) Ea.trans (Ea.put (by omega) (by omega)) (aj _ _) (fun _=>rfl)
  (fun pre W=>((∃ v,Boxed W Bo 135 v/\W.ownsRow w.heap.size 138 8 v (kI (ey L) key pre).length ((kI (ey L) key pre).flatMap EN)/\True)/\Boxed W (w.heap.size+1) 24 (.int .u64 key)/\Boxed W (Bo+1) 25 (.slice (some ⟨b,off,none⟩) L.length c))/\Below w.heap.size w W)
  (fun _ _ _=>False)
  (OwnFrom.and (OwnFrom.and (Own.from (holdsRow_own w.heap.size Bo 135 138 8 (fun pre=>(kI (ey L) key pre).length) (fun pre=>(kI (ey L) key pre).flatMap EN) (fun _ _=>True)) _) (OwnFrom.and (Own.from (boxed_own _ _ _) _) (Own.from (boxed_own _ _ _) _))) (ownFrom_below (ag _) (by omega)))
  (fun _ _ _ _ _ hs _ _=>hs)
  ⟨⟨⟨_,bO,aP _ _ _ _,trivial⟩,bK,bS⟩,hB2⟩
  (fun x a' W=>∃ Bx,w.heap.size+1<Bx/\Bo+1<Bx/\eU W Bx (pat L x).1.num (pat L x).1.rev (pat L x).1.mode (pat L x).1.size (pat L x).2 (pat L x).1.m.live (pat L x).1.m.ew/\a'={tmps:=#[zQ i l r (some ⟨b,off,none⟩) L.length c,.int .u64 key,.pointer (some ⟨w.heap.size,0,none⟩),.pointer (some ⟨w.heap.size+1,0,none⟩),.slice none 0 0,.pointer (some ⟨Bo,0,none⟩),.int .i64 (x:Int),.pointer (some ⟨Bx,0,none⟩),undef,undef,zQ i l r (some ⟨b,off,none⟩) L.length c,.bool true,.bool false,.pointer (some ⟨w.heap.size,3,none⟩),.slice (some ⟨b,off,none⟩) L.length c,.func (.func 143) #[] #[.pointer (some ⟨Bo+1,0,none⟩)],.int .i64 (x:Int),VG (pat L x),undef,undef,undef,undef,undef,undef,undef,undef,undef,undef,undef,undef,undef,undef,undef,undef,undef,undef,undef,undef,undef,undef],defers:=[]})
  (fun x a' _ X Y row hs hg hr=>by obtain ⟨Bx,h1,h2,h3,h4⟩:=hs;exact ⟨Bx,h1,h2,zIZ h3 hg (fun r e=>(hr r e).2),h4⟩)
  ?assign ?body ?done ?stop
 case assign =>
  rintro l pre x W K hI hK;obtain ⟨⟨⟨v,hv,hrow,_⟩,JG,Cu⟩,hB1⟩:=hI;have hlt:=Cu.lt
  gi_wp2
  exact hK _ _ ((KeepsOthers.alloc _ _).from _) ⟨(aj _ W).alloc hB1.size _,fun v hv=>((aj (Bo+1+1) W).alloc hlt _).cell (p:=⟨Bo+1,0,none⟩) (dy _)|>.trans hv⟩
   ⟨⟨⟨v,hv.alloc _,hrow.alloc _,trivial⟩,JG.alloc _,Cu.alloc _⟩,hB1.alloc hB1.size _⟩ ⟨W.heap.size,by have:=JG.lt;omega,by omega,eU.new W _ _ _ _ _ _ _ _,rfl⟩
 case body =>
  rintro l pre x a' W hl ⟨rr,hr⟩ ⟨⟨⟨v,hv,hrow,_⟩,JG,Cu⟩,hB1⟩ ⟨Bx,hx1,hx2,bX,rfl⟩ hlt;have hn0:=(Md.o W hB1 x)
  have rV:=zKu (ey L) key pre;have JH:=fun (y:It) (h:zl (pat L x).1.m key=some y)=>zJk (l:=ey L) pre (n:=x) (by rw[yj];exact h)
  have Gw:=fun (h:zl (pat L x).1.m key=none)=>zI6 (l:=ey L) pre (n:=x) (by rw[yj];exact h)
  rw[yj] at JH;have g0:=bX.n0;have g1:=bX.n1;have g2:=bX.n2;obtain ⟨c0,c1,c2,c3,c4,c5,c6,c7,c8,c9⟩:=bX.q;have cK:=JG.cell;have hXl:=bX.lt;have hKl:=JG.lt;have hOl:=hv.lt;have PR:=hB1.size
  cases C2:zl (pat L x).1.m key with
  |none =>
   rw[C2] at hn0;have hm:=Gw C2;clear JH Gw C2 Md HG
   gi_wp2_with (refine ⟨trivial,?_⟩;gi_at_call 95;refine (CallsIn.inRound l (callsIn_wide.2 hn0)).mono ?_;rintro e w2 ⟨rfl,hb2⟩)
   have hb3:=hb2.alloc hb2.size (xX fZ);exact ⟨(zDU hb3).from _,⟨hb3.mono PR,fun u hu=>hb3.keeps' hu⟩,⟨⟨v,hv.bb hb3,by rw[hm];exact zE hrow hb3,trivial⟩,JG.bb hb3,Cu.bb hb3⟩,hB1.trans (hb3.mono PR)⟩
  |some y =>
   rw[C2] at hn0;have hm:=JH y C2;clear JH Gw C2 Md HG
   gi_wp2_with (first|(refine ⟨trivial,?_⟩;gi_at_call 95;refine (CallsIn.inRound l (callsIn_wide.2 hn0)).mono ?_;rintro e w2 ⟨rfl,hb2⟩;have hb3:=hb2.alloc hb2.size (xX y);have q0:=hb3.keeps' g0;have q1:=hb3.keeps' g1;have q2:=hb3.keeps' g2;have hv3:=hv.bb hb3;have qO:=hv3.cell;have hrow3:=zE hrow hb3;have W6:(w2.alloc (xX y)).heap.size=w2.heap.size+1:=(by simp);have alx:=hb2.size)|(gi_at_builtin;refine wpListIn_append_own _ rfl _ _ 135 rfl w.heap.size 138 i0 _ 8 64 underlying135 hi hz0 hz1 hz2 rfl (by decide) _ _ _ rfl (hrow3.alloc _) ⟨w2.heap.size+1,0,none⟩ 1 1 (EN ⟨(pat L x).1.num,(pat L x).1.mode,(pat L x).1.rev,y,x⟩) rfl rfl (zLU _ (w2.heap.size+1) W6 (EN ⟨(pat L x).1.num,(pat L x).1.mode,(pat L x).1.rev,y,x⟩) 138) (zNV _) (by unfold maxLen;omega) (by omega) (by simp;omega) ?_;intro v' w4 hown' hgrow _;obtain ⟨g',cap',rfl⟩:=ownsRow_succ hown';obtain ⟨Ai,hv2,hr2,hk2,hb4⟩:=hv3.appended (by decide) hrow3 (by omega) (by omega) hown' hgrow;have hc1:=Ai.cell;have hf1:=Ai.frozen))
   have S9:=(((Cu.bb hb3).alloc _).kept hgrow ((Cu.bb hb3).not_row (by decide) hrow3)).other (B':=Bo) (by omega) (.slice (some ⟨g',0,none⟩) ((kI (ey L) key pre).length+1) cap');have bK5:=(((JG.bb hb3).alloc _).kept hgrow ((JG.bb hb3).not_row (by decide) hrow3)).other (B':=Bo) (by omega) (.slice (some ⟨g',0,none⟩) ((kI (ey L) key pre).length+1) cap');exact ⟨((zDU hb3).trans hk2).from _,⟨(hb3.mono PR).trans hb4,fun u hu=>by rw[Cu.cell] at hu;cases hu;exact S9.cell⟩,⟨⟨_,hv2,by rw[hm,ax,cn];simpa using hr2,trivial⟩,bK5,S9⟩,hB1.trans ((hb3.mono PR).trans hb4)⟩
 case done =>
  rintro D ys W hD rfl ⟨⟨⟨v,hv,hrow,_⟩,JG,Cu⟩,hB1⟩ hK;have hc:=hv.cell;rw[zFJ] at hrow
  gi_wp2
  refine ⟨by simp,.inl ⟨_,_,rfl,run_takeDeferred hK,?_⟩⟩;exact ⟨_,results_tmp rfl _ _ _,v,rfl,ownsRow_putObj hrow _ hK rfl,hB1.trans (belowK_b (w:=w) (ag _) W D _ _ (by omega) hK rfl rfl)⟩
 rintro D c pre W _ _ h _;exact h.elim
def yv:lJ:=⟨0,0,0,fZ,0⟩
abbrev KL (x:lJ):Array Value:=#[.int .i64 x.gen,.int .i64 x.mode,.int .i64 x.rev,.int .u64 x.it.key,.int .u32 x.it.ck,.int .i64 x.it.off,.int .i64 x.it.size]
abbrev Dt (x:lJ):Value:=.agg (KL x)
def zFE (l:List Gn) (key:Int):∀ n,(xp l key n).length<=n
 |0=>ag _
 |n+1=>by
  have h:=zFE l key n;rw[xp,ax]
  cases zl (fh l n).m key<;>simp<;>omega
def zFC {i l:Int} {r:Bool} {n:Nat} (hn:n=L.length) (hv:zb ⟨i,l,r,ey L⟩=true) (key:Int):yF ⟨i,l,r,ey L⟩ key=xp (ey L) key n:=by
 unfold yF;rw[ah hv,hn];show xp (ey L) key (ey L).length=_;rw[zk]
def S_ {s:fk} (hv:zb s=false) (key:Int):yF s key=[]:=by unfold yF;rw[ai (by rw[hv];decide)]
def Eb.rd {l:List lJ} (h:Eb w B v l):JF w v l:=Ul (fun x _=>zMW x) (by decide) h
def zHK (i l:Int) (r:Bool) (a:Option Addr) (n c:Nat) (L:List GP) (w:World) (h:fB w (.slice a n c) L) (hs:∀ p∈L,∀ j,j<8->(p.1.m.st j).length<=10000) (key:Int) :
  Calls prog 62 #[zQ i l r a n c,.int .u64 key] w fun e w'=>∃ v,e=.returned v/\Eb w' w.heap.size v (yF ⟨i,l,r,ey L⟩ key)/\Below w.heap.size w w':=by
 cases hv:zb ⟨i,l,r,ey L⟩ with
 |true =>
  rw[zFC (by obtain ⟨a',cap',e,_⟩:=h.shape;injection e) hv];exact zMA i l r a n c L w h hs hv key
 |false =>
  rw[S_ hv];refine (zM7 i l r a n c L w h hs hv key).mono ?_;rintro e w' ⟨rfl,hb⟩;exact ⟨_,rfl,aP _ _ _ _,hb⟩
structure nB (W:World) (b:Nat) (x:lJ):Prop where
 c0:W.cell? ⟨b,0,none⟩=some (.int .i64 x.gen)
 c1:W.cell? ⟨b,1,none⟩=some (.int .i64 x.mode)
 c2:W.cell? ⟨b,2,none⟩=some (.int .i64 x.rev)
 c3:W.cell? ⟨b,3,none⟩=some (.int .u64 x.it.key)
 c4:W.cell? ⟨b,4,none⟩=some (.int .u32 x.it.ck)
 c5:W.cell? ⟨b,5,none⟩=some (.int .i64 x.it.off)
 c6:W.cell? ⟨b,6,none⟩=some (.int .i64 x.it.size)
 f:∀ i,W.frozen? ⟨b,i,none⟩=false
def nB.new (W:World) (x:lJ):nB (W.alloc (.cells (KL x) 51)) W.heap.size x:=⟨by simp,by simp,by simp,by simp,by simp,by simp,by simp,fun i=>by simp⟩
def nB.lt {x:lJ} (h:nB W b x):b<W.heap.size:=bW W _ h.c0
def nB.bb {x:lJ} (h:nB W b x) (hB:Below W.heap.size W W'):nB W' b x:=⟨hB.keeps' h.c0,hB.keeps' h.c1,hB.keeps' h.c2,hB.keeps' h.c3,hB.keeps' h.c4,hB.keeps' h.c5,hB.keeps' h.c6,fun i=>(hB.frozen (p:=⟨b,i,none⟩) h.lt).trans (h.f i)⟩
abbrev Bh (x:lJ):List (Nat×Value):=[(0,.int .i64 x.gen),(1,.int .i64 x.mode),(2,.int .i64 x.rev),(3,.int .u64 x.it.key),(4,.int .u32 x.it.ck),(5,.int .i64 x.it.off),(6,.int .i64 x.it.size)]
def nB.all {x:lJ} (h:nB W b x) (y:lJ):nB (pts W b (Bh y)) b y:=by
 have c0:=h.c0;have c1:=h.c1;have c2:=h.c2;have c3:=h.c3;have c4:=h.c4;have c5:=h.c5;have c6:=h.c6;refine ⟨?_,?_,?_,?_,?_,?_,?_,fun i=>(wA _ _ W).trans (h.f i)⟩
 ·simp[pts,go_sem,c0]
 ·simp[pts,go_sem,c1]
 ·simp[pts,go_sem,c2]
 ·simp[pts,go_sem,c3]
 ·simp[pts,go_sem,c4]
 ·simp[pts,go_sem,c5]
 simp[pts,go_sem,c6]
def zIF (i l:Int) (r:Bool) (a:Option Addr) (n c:Nat) (L:List GP) (w:World) (h:fB w (.slice a n c) L) (hs:∀ p∈L,∀ j,j<8->(p.1.m.st j).length<=10000) (key:Int) :
  Calls prog 16 #[zQ i l r a n c,.int .u64 key] w fun e w'=>e=.returned (.tuple #[Dt ((yF ⟨i,l,r,ey L⟩ key).headD yv),.bool (!(yF ⟨i,l,r,ey L⟩ key).isEmpty)])/\Below w.heap.size w w':=by
 have rB:=zh (fun W (hb:Below w.heap.size w W)=>zHK i l r a n c L W (h.bb hb) hs key);have eO:=zh (fp.new w i l r a n c 27);have eP:=zh (zR w i l r a n c 27);obtain ⟨F,hF⟩:∃ F,yF ⟨i,l,r,ey L⟩ key=F:=⟨_,rfl⟩
 rw[hF] at rB |-;clear h hs hF
 go_enter func16,ntmps16
 go_upto_region 1 with fail;obtain ⟨W,hW⟩:∃ W,w.alloc (.cells (zM i l r a n c) 27)=W:=⟨_,rfl⟩
 change Code.wp _ _ _ _ ((w.alloc (.cells (zM i l r a n c) 27)).alloc _);have hsz:W.heap.size=w.heap.size+1:=by rw[<- hW];simp
 rw[hW] at eO eP |-;clear hW;have pH:=eO.o.lt;have eV:=zh (eP.o.alloc eP.o.size (.cells #[.int .i64 0,.int .i64 0,.int .i64 0,.int .u64 0,.int .u32 0,.int .i64 0,.int .i64 0] 51));have fG:=zh (eO.o.bb ((aj _ W).alloc (ag _) (.cells #[.int .i64 0,.int .i64 0,.int .i64 0,.int .u64 0,.int .u32 0,.int .i64 0,.int .i64 0] 51)));obtain ⟨k0,k1,k2,k3⟩:=fG.o.q;go_wp2_with fail;refine (rB.o _ eV.o).mono ?_;rintro e w1 ⟨v,rfl,ho,hb1⟩;clear k0 k1 k2 k3;have hR:=ho.rd;obtain ⟨a',cap',rfl,h2,h3,h4,h5⟩:=jy.shape hR (by decide) yv;have hlz:w.heap.size+1<w1.heap.size:=by have:=hb1.size;simp at this;omega
 have HP:nB w1 (w.heap.size+1) yv:=by rw[<- hsz];exact (nB.new W yv).bb hb1
 have z0:=HP.c0;have z1:=HP.c1;have z2:=HP.c2;have z3:=HP.c3;have z4:=HP.c4;have z5:=HP.c5;have z6:=HP.c6;have hf:=HP.f;have NM:=zh (zA eV.o hb1);clear hb1 hR ho
 cases F with
 |nil =>
  go_wp2_with fail;change bodyPost _ _ _ _ _ (pts w1 (w.heap.size+1) (Bh yv));have hby:=HP.all yv;have eN:=zh (zC (B:=w.heap.size) (b:=w.heap.size+1) (by omega) (Bh yv) NM.o);generalize pts w1 (w.heap.size+1) (Bh yv)=V at *;exact au (v:=.tuple #[Dt yv,.bool false]) (by simp[results,results16,go_sem,hby.c0,hby.c1,hby.c2,hby.c3,hby.c4,hby.c5,hby.c6]) rfl ⟨rfl,eN.o⟩
 |cons x F =>
  obtain ⟨b,off,rfl,hc⟩:=h5 (by simp);have e0:decide ((((x::F).length:Nat):Int)=0)=false:=by simp;omega
  have c0:w1.cell? ⟨b,off,none⟩=some (.int .i64 x.gen):=by simpa using hc 0 (by simp) 0 _ rfl
  have c1:w1.cell? ⟨b,off+1,none⟩=some (.int .i64 x.mode):=by simpa using hc 0 (by simp) 1 _ rfl
  have c2:w1.cell? ⟨b,off+2,none⟩=some (.int .i64 x.rev):=by simpa using hc 0 (by simp) 2 _ rfl
  have c3:w1.cell? ⟨b,off+3,none⟩=some (.int .u64 x.it.key):=by simpa using hc 0 (by simp) 3 _ rfl
  have c4:w1.cell? ⟨b,off+4,none⟩=some (.int .u32 x.it.ck):=by simpa using hc 0 (by simp) 4 _ rfl
  have c5:w1.cell? ⟨b,off+5,none⟩=some (.int .i64 x.it.off):=by simpa using hc 0 (by simp) 5 _ rfl
  have c6:w1.cell? ⟨b,off+6,none⟩=some (.int .i64 x.it.size):=by simpa using hc 0 (by simp) 6 _ rfl
  have hpos:0<(x::F).length:=by simp
  clear hc;generalize (x::F).length=m at *;go_wp2_with fail;change bodyPost _ _ _ _ _ (pts w1 (w.heap.size+1) (Bh x));have hby:=HP.all x;have eN:=zh (zC (B:=w.heap.size) (b:=w.heap.size+1) (by omega) (Bh x) NM.o);generalize pts w1 (w.heap.size+1) (Bh x)=V at *;exact au (v:=.tuple #[Dt x,.bool true]) (by simp[results,results16,go_sem,hby.c0,hby.c1,hby.c2,hby.c3,hby.c4,hby.c5,hby.c6]) rfl ⟨rfl,eN.o⟩
end Go.Proofs.YtcgfilmmokmdjaaGreat
