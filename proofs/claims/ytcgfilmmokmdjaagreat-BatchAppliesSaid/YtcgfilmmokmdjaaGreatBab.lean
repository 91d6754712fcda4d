import Derived.Test.YtcgfilmmokmdjaaGreatQAO
set_option linter.all false
set_option maxRecDepth 100000
set_option maxHeartbeats 32000000
namespace Go.Proofs.YtcgfilmmokmdjaaGreat
open Go.Proofs.Tryz
open Go.RowKit
def zJ9 (s:Sl) (L G:Int) (w:World):Calls prog 109 #[yD s L G] w fun e w'=>e=.returned (yD s L G)/\Below w.heap.size w w':=by
 obtain ⟨W0,hW0⟩:∃ W0,(w.alloc (.cells (yl s L G) 111)).alloc (.cells (yl Sl.nil 0 0) 36)=W0:=⟨_,rfl⟩
 have HX:Hid (eZ W0 w.heap.size s L G):=zh (hW0▸((eZ.new w s L G 111).bb (zY _ Sl.nil 0 0 36)));have HY:Hid (eZ W0 (w.heap.size+1) Sl.nil 0 0):=zh (hW0▸(by have:=eZ.new (w.alloc (.cells (yl s L G) 111)) Sl.nil 0 0 36;simpa using this));have HB:Hid (Below w.heap.size w W0):=zh (hW0▸zA (zY w s L G 111) (zY _ Sl.nil 0 0 36));have Af:=zh hW0;clear hW0
 go_enter func109,ntmps109
 go_upto_region 1 with fail;have hW0:=Af.o;rw[show (w.alloc (.cells (yl s L G) 111)).alloc (.cells #[.slice none 0 0,.slice none 0 0,.slice none 0 0,.slice none 0 0,.slice none 0 0,.slice none 0 0,.slice none 0 0,.slice none 0 0,.int .i64 0,.int .i64 0] 36)=W0 from hW0];clear hW0 Af;obtain ⟨c0,c1,c2,c3,c4,c5,c6,c7,c8,c9⟩:=HX.o.q;have cF:=HX.o.f;obtain ⟨d0,d1,d2,d3,d4,d5,d6,d7,d8,d9⟩:=HY.o.q;have dF:=HY.o.f;go_wp2_with fail;change bodyPost _ _ _ _ _ (yN W0 (w.heap.size+1) s L G);have hby:=HY.o.all s L G;have eN:=zh (zj HB.o (show w.heap.size<=w.heap.size+1 by omega) s L G);generalize yN W0 (w.heap.size+1) s L G=V9 at *;exact au (v:=yD s L G) (by simp[results,results109,go_sem,hby.q]) rfl ⟨rfl,eN.o⟩
def zJR (s:Sl) (L G:Int) (w:World):Calls prog 114 #[yD s L G] w fun e w'=>e=.returned (yD s L G)/\Below w.heap.size w w':=by
 obtain ⟨W0,hW0⟩:∃ W0,(w.alloc (.cells (yl s L G) 36)).alloc (.cells (yl Sl.nil 0 0) 111)=W0:=⟨_,rfl⟩
 have HX:Hid (eZ W0 w.heap.size s L G):=zh (hW0▸((eZ.new w s L G 36).bb (zY _ Sl.nil 0 0 111)));have HY:Hid (eZ W0 (w.heap.size+1) Sl.nil 0 0):=zh (hW0▸(by have:=eZ.new (w.alloc (.cells (yl s L G) 36)) Sl.nil 0 0 111;simpa using this));have HB:Hid (Below w.heap.size w W0):=zh (hW0▸zA (zY w s L G 36) (zY _ Sl.nil 0 0 111));have Af:=zh hW0;clear hW0
 go_enter func114,ntmps114
 go_upto_region 1 with fail;have hW0:=Af.o;rw[show (w.alloc (.cells (yl s L G) 36)).alloc (.cells #[.slice none 0 0,.slice none 0 0,.slice none 0 0,.slice none 0 0,.slice none 0 0,.slice none 0 0,.slice none 0 0,.slice none 0 0,.int .i64 0,.int .i64 0] 111)=W0 from hW0];clear hW0 Af;obtain ⟨c0,c1,c2,c3,c4,c5,c6,c7,c8,c9⟩:=HX.o.q;have cF:=HX.o.f;obtain ⟨d0,d1,d2,d3,d4,d5,d6,d7,d8,d9⟩:=HY.o.q;have dF:=HY.o.f;go_wp2_with fail;change bodyPost _ _ _ _ _ (yN W0 (w.heap.size+1) s L G);have hby:=HY.o.all s L G;have eN:=zh (zj HB.o (show w.heap.size<=w.heap.size+1 by omega) s L G);generalize yN W0 (w.heap.size+1) s L G=V9 at *;exact au (v:=yD s L G) (by simp[results,results114,go_sem,hby.q]) rfl ⟨rfl,eN.o⟩
def zJr (n r md z:Int) (s:Sl) (L G:Int) (w:World):Calls prog 67 #[ze n r md z s L G] w fun e w'=>e=.returned (ze n r md z s L G)/\Below w.heap.size w w':=by
 obtain ⟨W0,hW0⟩:∃ W,w.alloc (.cells (zU n r md z s L G) 113)=W:=⟨_,rfl⟩
 have lY:Hid (eU W0 w.heap.size n r md z s L G):=zh (hW0▸eU.new w n r md z s L G 113);have eP:Hid (Below w.heap.size w W0):=zh (hW0▸zT w n r md z s L G 113);have HR:=zh (eU.new W0 0 0 0 0 Sl.nil 0 0 38);have HX:=zh (lY.o.bb (zT W0 0 0 0 0 Sl.nil 0 0 38));have HB:=zh (zA eP.o (zT W0 0 0 0 0 Sl.nil 0 0 38));have hlz:w.heap.size<=W0.heap.size:=eP.o.size;have hz0:W0.heap.size=w.heap.size+1:=by rw[<- hW0];simp
 go_enter func67,ntmps67
 go_upto_region 1 with fail;change Code.wp _ _ _ _ (W0.alloc (.cells (zU 0 0 0 0 Sl.nil 0 0) 38));clear hW0 lY eP;obtain ⟨W,hW⟩:∃ W,W0.alloc (.cells (zU 0 0 0 0 Sl.nil 0 0) 38)=W:=⟨_,rfl⟩
 rw[hW] at HX HB HR |-;clear hW;rw[hz0] at HR;clear hz0;refine xD [eT (.pointer (some ⟨w.heap.size,0,none⟩)),eT (.int .i64 n),eT (.pointer (some ⟨w.heap.size,1,none⟩)),eT (.int .i64 r),eT (.pointer (some ⟨w.heap.size,2,none⟩)),eT (.int .i64 md),eT (.pointer (some ⟨w.heap.size,3,none⟩)),eT (.int .i64 z),eT (.pointer (some ⟨w.heap.size,4,none⟩)),eT (yD s L G),eT (yD s L G),eT (ze n r md z s L G)] [] 15 (by kernel_rfl) (by kernel_rfl) (by rfl) (by kernel_rfl) (fun f=>by simp[fU,zW,Act.put];exact rfl) ?_ ?_
 ·refine ⟨?_,?_,?_,?_,?_,?_,?_,?_,?_,?_,?_,?_,trivial⟩
  ·intro f w1 hb hd;clear hd;dsimp only;go_wp2_with fail;exact pS rfl (by simp)
  ·intro f w1 hb hd;have d0:f 0=_:=hd 0 (by kernel_rfl);clear hd;dsimp only;rw[d0];have q0:=(HX.o.bb hb).n0;go_wp2_with fail;exact pS rfl (by simp)
  ·intro f w1 hb hd;clear hd;dsimp only;go_wp2_with fail;exact pS rfl (by simp)
  ·intro f w1 hb hd;have d2:f 2=_:=hd 2 (by kernel_rfl);clear hd;dsimp only;rw[d2];have q0:=(HX.o.bb hb).n1;go_wp2_with fail;exact pS rfl (by simp)
  ·intro f w1 hb hd;clear hd;dsimp only;go_wp2_with fail;exact pS rfl (by simp)
  ·intro f w1 hb hd;have d4:f 4=_:=hd 4 (by kernel_rfl);clear hd;dsimp only;rw[d4];have q0:=(HX.o.bb hb).n2;go_wp2_with fail;exact pS rfl (by simp)
  ·intro f w1 hb hd;clear hd;dsimp only;go_wp2_with fail;exact pS rfl (by simp)
  ·intro f w1 hb hd;have d6:f 6=_:=hd 6 (by kernel_rfl);clear hd;dsimp only;rw[d6];have q0:=(HX.o.bb hb).n3;go_wp2_with fail;exact pS rfl (by simp)
  ·intro f w1 hb hd;clear hd;dsimp only;go_wp2_with fail;exact pS rfl (by simp)
  ·intro f w1 hb hd;have d8:f 8=_:=hd 8 (by kernel_rfl);clear hd;dsimp only;rw[d8];have zo:=HX.o.bb hb;obtain ⟨q0,q1,q2,q3,q4,q5,q6,q7,q8,q9,w_,y_,z_,Aa⟩:=zo.q;clear zo;go_wp2_with fail;exact pS rfl (by simp)
  ·intro f w1 hb hd;have d9:f 9=_:=hd 9 (by kernel_rfl);clear hd;dsimp only;rw[d9];go_wp2_with fail;refine (zJ9 s L G w1).mono ?_;rintro e w9 ⟨rfl,gy⟩;go_wp2_with fail;exact pT rfl (by simp) gy
  intro f w1 hb hd;have d1:f 1=_:=hd 1 (by kernel_rfl);have d3:f 3=_:=hd 3 (by kernel_rfl);have d5:f 5=_:=hd 5 (by kernel_rfl);have d7:f 7=_:=hd 7 (by kernel_rfl);have d10:f 10=_:=hd 10 (by kernel_rfl);clear hd;dsimp only;rw[d1];rw[d3];rw[d5];rw[d7];rw[d10];go_wp2_with fail;exact pS rfl (by simp)
 intro f w5 hb hd iX;clear iX;have d11:f 11=_:=hd 11 (show 11<12 by decide)
 try dsimp only
 rw[d11];clear hd d11;have HY:=zh (HR.o.bb hb);have gW:=zh (zA HB.o hb);clear hb;have rf:=HY.o.f;obtain ⟨r0,r1,r2,r3,r4,r5,r6,r7,r8,r9,nL,mD,mR,pK⟩:=HY.o.q;go_wp2_with fail;change bodyPost _ _ _ _ _ (pts w5 (w.heap.size+1) (zS n r md z s L G));have hby:=HY.o.all n r md z s L G;have eN:=zh (zC (B:=w.heap.size) (b:=w.heap.size+1) (by omega) (zS n r md z s L G) gW.o);generalize pts w5 (w.heap.size+1) (zS n r md z s L G)=V at *;exact au (v:=ze n r md z s L G) (by simp[results,results67,go_sem,hby.q]) rfl ⟨rfl,eN.o⟩
def zIe (n r md z:Int) (s:Sl) (L G:Int) (w:World):Calls prog 73 #[ze n r md z s L G] w fun e w'=>e=.returned (ze n r md z s L G)/\Below w.heap.size w w':=by
 obtain ⟨W0,hW0⟩:∃ W,w.alloc (.cells (zU n r md z s L G) 38)=W:=⟨_,rfl⟩
 have lY:Hid (eU W0 w.heap.size n r md z s L G):=zh (hW0▸eU.new w n r md z s L G 38);have eP:Hid (Below w.heap.size w W0):=zh (hW0▸zT w n r md z s L G 38);have HR:=zh (eU.new W0 0 0 0 0 Sl.nil 0 0 113);have HX:=zh (lY.o.bb (zT W0 0 0 0 0 Sl.nil 0 0 113));have HB:=zh (zA eP.o (zT W0 0 0 0 0 Sl.nil 0 0 113));have hlz:w.heap.size<=W0.heap.size:=eP.o.size;have hz0:W0.heap.size=w.heap.size+1:=by rw[<- hW0];simp
 go_enter func73,ntmps73
 go_upto_region 1 with fail;change Code.wp _ _ _ _ (W0.alloc (.cells (zU 0 0 0 0 Sl.nil 0 0) 113));clear hW0 lY eP;obtain ⟨W,hW⟩:∃ W,W0.alloc (.cells (zU 0 0 0 0 Sl.nil 0 0) 113)=W:=⟨_,rfl⟩
 rw[hW] at HX HB HR |-;clear hW;rw[hz0] at HR;clear hz0;refine xD [eT (.pointer (some ⟨w.heap.size,0,none⟩)),eT (.int .i64 n),eT (.pointer (some ⟨w.heap.size,1,none⟩)),eT (.int .i64 r),eT (.pointer (some ⟨w.heap.size,2,none⟩)),eT (.int .i64 md),eT (.pointer (some ⟨w.heap.size,3,none⟩)),eT (.int .i64 z),eT (.pointer (some ⟨w.heap.size,4,none⟩)),eT (yD s L G),eT (yD s L G),eT (ze n r md z s L G)] [] 15 (by kernel_rfl) (by kernel_rfl) (by rfl) (by kernel_rfl) (fun f=>by simp[fU,zW,Act.put];exact rfl) ?_ ?_
 ·refine ⟨?_,?_,?_,?_,?_,?_,?_,?_,?_,?_,?_,?_,trivial⟩
  ·intro f w1 hb hd;clear hd;dsimp only;go_wp2_with fail;exact pS rfl (by simp)
  ·intro f w1 hb hd;have d0:f 0=_:=hd 0 (by kernel_rfl);clear hd;dsimp only;rw[d0];have q0:=(HX.o.bb hb).n0;go_wp2_with fail;exact pS rfl (by simp)
  ·intro f w1 hb hd;clear hd;dsimp only;go_wp2_with fail;exact pS rfl (by simp)
  ·intro f w1 hb hd;have d2:f 2=_:=hd 2 (by kernel_rfl);clear hd;dsimp only;rw[d2];have q0:=(HX.o.bb hb).n1;go_wp2_with fail;exact pS rfl (by simp)
  ·intro f w1 hb hd;clear hd;dsimp only;go_wp2_with fail;exact pS rfl (by simp)
  ·intro f w1 hb hd;have d4:f 4=_:=hd 4 (by kernel_rfl);clear hd;dsimp only;rw[d4];have q0:=(HX.o.bb hb).n2;go_wp2_with fail;exact pS rfl (by simp)
  ·intro f w1 hb hd;clear hd;dsimp only;go_wp2_with fail;exact pS rfl (by simp)
  ·intro f w1 hb hd;have d6:f 6=_:=hd 6 (by kernel_rfl);clear hd;dsimp only;rw[d6];have q0:=(HX.o.bb hb).n3;go_wp2_with fail;exact pS rfl (by simp)
  ·intro f w1 hb hd;clear hd;dsimp only;go_wp2_with fail;exact pS rfl (by simp)
  ·intro f w1 hb hd;have d8:f 8=_:=hd 8 (by kernel_rfl);clear hd;dsimp only;rw[d8];have zo:=HX.o.bb hb;obtain ⟨q0,q1,q2,q3,q4,q5,q6,q7,q8,q9,w_,y_,z_,Aa⟩:=zo.q;clear zo;go_wp2_with fail;exact pS rfl (by simp)
  ·intro f w1 hb hd;have d9:f 9=_:=hd 9 (by kernel_rfl);clear hd;dsimp only;rw[d9];go_wp2_with fail;refine (zJR s L G w1).mono ?_;rintro e w9 ⟨rfl,gy⟩;go_wp2_with fail;exact pT rfl (by simp) gy
  intro f w1 hb hd;have d1:f 1=_:=hd 1 (by kernel_rfl);have d3:f 3=_:=hd 3 (by kernel_rfl);have d5:f 5=_:=hd 5 (by kernel_rfl);have d7:f 7=_:=hd 7 (by kernel_rfl);have d10:f 10=_:=hd 10 (by kernel_rfl);clear hd;dsimp only;rw[d1];rw[d3];rw[d5];rw[d7];rw[d10];go_wp2_with fail;exact pS rfl (by simp)
 intro f w5 hb hd iX;clear iX;have d11:f 11=_:=hd 11 (show 11<12 by decide)
 try dsimp only
 rw[d11];clear hd d11;have HY:=zh (HR.o.bb hb);have gW:=zh (zA HB.o hb);clear hb;have rf:=HY.o.f;obtain ⟨r0,r1,r2,r3,r4,r5,r6,r7,r8,r9,nL,mD,mR,pK⟩:=HY.o.q;go_wp2_with fail;change bodyPost _ _ _ _ _ (pts w5 (w.heap.size+1) (zS n r md z s L G));have hby:=HY.o.all n r md z s L G;have eN:=zh (zC (B:=w.heap.size) (b:=w.heap.size+1) (by omega) (zS n r md z s L G) gW.o);generalize pts w5 (w.heap.size+1) (zS n r md z s L G)=V at *;exact au (v:=ze n r md z s L G) (by simp[results,results73,go_sem,hby.q]) rfl ⟨rfl,eN.o⟩
def zIb (i l:Int) (r:Bool) (a:Option Addr) (n c:Nat) (L:List GP) (w:World) (h:fB w (.slice a n c) L) (hn:n<=1000000) :
  Calls prog 23 #[zQ i l r a n c] w fun e w'=>(∃ a' c',e=.returned (zQ i l r a' n c')/\fB w' (.slice a' n c') L)/\Below w.heap.size w w':=by
 have fT:L.length=n:=by
  obtain ⟨_,_,e,_⟩:=h.shape;injection e with _ e _;exact e.symm
 have HR:=zh h;have IU:Hid (∀ k,k<n->pat L k∈L):=zh (fun k hk=>yP (by omega));have Zu:Hid (∀ k,k<n->(L.take (k+1)).flatMap iM=(L.take k).flatMap iM++iM (pat L k)):=zh (fun k hk=>zDa L k (by omega));have Zv:Hid (L.take n=L):=zh (aS (by omega));have jJ:=zh fT;have hcap:n<=9223372036854775807:=by omega
 clear h fT
 go_enter func23,ntmps23
 go_upto_region 1 with fail;change Code.wp _ _ _ _ ((w.alloc (.cells (zM i l r a n c) 31)).alloc (.cells (zM 0 0 false none 0 0) 27));obtain ⟨W0,hW0,fJ,hbr,fS,Cv⟩:=zEx w i l r a n c 31 27;rw[hW0];clear hW0;have k0:=fJ.c0;have k1:=fJ.c1;have k2:=fJ.c2;have lY:=zh fJ;have jC:=zh hbr;have eP:=zh fS;have hsz:=Cv;clear fJ hbr fS Cv;go_upto_region 2 with fail;clear k0 k1 k2;change Code.wp _ _ _ _ (W0.alloc (.cells (zM i l r none 0 0) 27));have fq:=zR W0 i l r none 0 0 27;have HO:=zh (fp.new W0 i l r none 0 0 27);have HX:=zh (lY.o.bb fq);have mH:=zh (jC.o.bb fq);have HB:=zh (zA eP.o fq);clear fq lY jC eP;generalize W0.alloc (.cells (zM i l r none 0 0) 27)=W1 at *;rw[hsz] at HO;clear hsz;clear W0;have hlo:=HO.o.lt;have k3:=HX.o.c3;go_wp2_with fail;clear k3
 go_loopw [16] (fun iv V=>∃ (k:Nat) (a':Option Addr) (c':Nat),iv=.int .i64 (k:Int)/\k<=n/\Hid (V.ownsRow W1.heap.size 38 14 (.slice a' k c') k ((L.take k).flatMap iM))/\Hid (fp V (w.heap.size+2) i l r a' k c')/\Hid (fp V (w.heap.size+1) 0 0 false none 0 0)/\Hid (Below w.heap.size w V)/\Hid (W1.heap.size<=V.heap.size)) (fun iv _=>n-(intOf iv).toNat)
 case atStart=>exact ⟨0,none,0,rfl,aq _,zh (aP _ _ _ _),HO,mH,HB,zh (ag _)⟩
 clear HO mH HB HX;obtain ⟨k,a',c',rfl,hk,rU,HO,mH,HB,jb⟩:=hrel
 by_cases hlt:k<n
 ·have i1:(k:Int)<(n:Int):=by omega
  have hR:=HR.o.bb HB.o;obtain ⟨b,off,rfl,hg⟩:=hR.at hlt;have hfl:=Zu.o k hlt;clear hR;generalize pat L k=p at *;obtain ⟨⟨num,rev,md,sz,⟨fs,LV,GA⟩⟩,s⟩:=p
  try dsimp only at hfl
  obtain ⟨g0,g1,g2,g3,g4,g5,g6,g7,g8,g9,g10,g11,g12,g13⟩:=hg
  try dsimp only at g0 g1 g2 g3 g4 g5 g6 g7 g8 g9 g10 g11 g12 g13
  go_upto_region 5 with fail;clear g0 g1 g2 g3 g4 g5 g6 g7 g8 g9 g10 g11 g12 g13;change Code.wp _ _ _ _ (wr.alloc (.cells (zU num rev md sz s LV GA) 113));have fq:=zT wr num rev md sz s LV GA 113;have HG:=zh (eU.new wr num rev md sz s LV GA 113);replace rU:=zh (zE rU.o fq);replace HO:=zh (HO.o.bb fq);replace mH:=zh (mH.o.bb fq);replace HB:=zh (zA HB.o fq);replace jb:=zh (ak jb.o fq.size);clear fq;generalize wr.alloc (.cells (zU num rev md sz s LV GA) 113)=v0 at *;generalize wr.heap.size=bg at *;have M_:=zh hfl;have jO:=zh (NK ((⟨num,rev,md,sz,⟨fs,LV,GA⟩⟩:Gn),s));clear hfl
  refine xD [eT (.pointer (some ⟨w.heap.size+2,3,none⟩)),eT (.slice a' k c'),eT (ze num rev md sz s LV GA),eT (ze num rev md sz s LV GA),zNm ((⟨num,rev,md,sz,⟨fs,LV,GA⟩⟩:Gn),s)] [] 29 (by kernel_rfl) (by kernel_rfl) (by rfl) (by kernel_rfl) (fun f=>by simp[fU,zW,Act.put];exact rfl) ?_ ?_
  ·refine ⟨?_,?_,?_,?_,?_,trivial⟩
   ·intro f w1 hb hd;clear hd;dsimp only;go_wp2_with fail;exact pS rfl (by simp)
   ·intro f w1 hb hd;have d0:f 0=_:=hd 0 (by kernel_rfl);clear hd;dsimp only;rw[d0];have q3:=(HO.o.bb hb).c3;go_wp2_with fail;exact pS rfl (by simp)
   ·intro f w1 hb hd;clear hd;dsimp only;have zo:=HG.o.bb hb;obtain ⟨q0,q1,q2,q3,q4,q5,q6,q7,q8,q9,w_,y_,z_,Aa⟩:=zo.q;clear zo;go_wp2_with fail;exact pS rfl (by simp)
   ·intro f w1 hb hd;have d2:f 2=_:=hd 2 (by kernel_rfl);clear hd;dsimp only;rw[d2];go_wp2_with fail;refine (zJr num rev md sz s LV GA w1).mono ?_;rintro e w9 ⟨rfl,gy⟩;go_wp2_with fail;exact pT rfl (by simp) gy
   intro f w1 hb hd;have d3:f 3=_:=hd 3 (by kernel_rfl);clear hd;dsimp only;rw[d3];have Ar:=zh (Rd.jR w1.heap.size w1 rfl 14 (iM ((⟨num,rev,md,sz,⟨fs,LV,GA⟩⟩:Gn),s)) 38 1 rfl (by decide));have mU:=zh ((aj w1.heap.size w1).alloc (ag _) (.cells (iM ((⟨num,rev,md,sz,⟨fs,LV,GA⟩⟩:Gn),s)).toArray 38));go_wp2_with fail;refine ⟨rfl,?_,?_⟩
   ·exact mU.o
   intro t ht;injection ht with ht;subst ht;refine ⟨⟨_,rfl,?_⟩,fun h=>by simp at h⟩;exact Ar.o
  intro f' w5 hb hd iX;clear iX;have d1:f' 1=_:=hd 1 (by simp);obtain ⟨j4,d4,hr4⟩:=hd 4 (by simp)
  try dsimp only
  rw[d1,d4];clear hd d1 d4;generalize f' 0=z0;generalize f' 2=z2;generalize f' 3=z3;clear f';have fW:=zE rU.o hb;have DN:=ak jb.o hb.size;have Na:=HO.o.bb hb;have Nb:=mH.o.bb hb;have Nc:=zA HB.o hb;refine zP rfl (.tmp 21) (.tmp 24) 25 rfl Xc W1.heap.size rfl fW rfl hr4 jO.o (by unfold maxLen;omega) (by omega) DN ?_;intro v8 w8 gw iW _;obtain ⟨ra,rc,rfl,_⟩:=zG gw;rw[<- M_.o] at gw;have DO:=Na.Bj iW (Tc fW hlo);have Nf:=Nb.Bj iW (Tc fW (show w.heap.size+1<W1.heap.size by omega));have Ng:=Nc.trans ((zK (aj W1.heap.size w5) fW DN iW).mono (show w.heap.size<=W1.heap.size by omega));have Nh:=ak DN iW.size;have q3:=DO.c3;have qf:=DO.f;go_wp2_with fail
  exact ⟨⟨k+1,ra,rc,by go_num,by omega,zh (xY (b:=w.heap.size+2) hlo gw [(3,.slice ra (k+1) rc)]),zh (DO.Ds ra (k+1) rc),zh (Nf.eL (d:=w.heap.size+2) (by omega) [(3,.slice ra (k+1) rc)]),zh (zC (B:=w.heap.size) (b:=w.heap.size+2) (by omega) [(3,.slice ra (k+1) rc)] Ng),zh (show W1.heap.size<=(pts w8 (w.heap.size+2) [(3,.slice ra (k+1) rc)]).heap.size by rw[wh];exact Nh)⟩,by simp[intOf];omega⟩
 have i1:¬ (k:Int)<(n:Int):=by omega
 obtain rfl:k=n:=by omega
 rw[Zv.o] at rU;obtain ⟨k0,k1,k2,k3⟩:=HO.o.q;have jT:w.heap.size+1<W1.heap.size:=by omega
 obtain ⟨z0,z1,z2,z3⟩:=mH.o.q;have zf:=mH.o.f;go_wp2_with fail;change bodyPost _ _ _ _ _ (pts wr (w.heap.size+1) (zI i l r a' k c'));have rR:Hid (fB (pts wr (w.heap.size+1) (zI i l r a' k c')) (.slice a' k c') L):=zh (uk (xY (b:=w.heap.size+1) (by omega) rU.o _) jJ.o.symm (fun p hp=>(HR.o.m p hp).bb (zC (B:=w.heap.size) (b:=w.heap.size+1) (by omega) (zI i l r a' k c') HB.o)));have hby:=mH.o.all i l r a' k c';have eN:=zh (zC (B:=w.heap.size) (b:=(w.heap.size+1)) (by omega) (zI i l r a' k c') HB.o);generalize pts wr (w.heap.size+1) (zI i l r a' k c')=V at *;exact au (v:=zQ i l r a' k c') (by simp[results,results23,go_sem,hby.c0,hby.c1,hby.c2,hby.c3]) rfl (⟨⟨a',c',rfl,rR.o⟩,eN.o⟩)
def zG6 (i l:Int) (r:Bool) (a:Option Addr) (n c:Nat) (L:List GP) (w:World) (h:fB w (.slice a n c) L) (hn:n<=1000000) :
  Calls prog 33 #[zQ i l r a n c] w fun e w'=>(∃ a' c',e=.returned (zQ i l r a' n c')/\fB w' (.slice a' n c') L)/\Below w.heap.size w w':=by
 have fT:L.length=n:=by
  obtain ⟨_,_,e,_⟩:=h.shape;injection e with _ e _;exact e.symm
 have HR:=zh h;have IU:Hid (∀ k,k<n->pat L k∈L):=zh (fun k hk=>yP (by omega));have Zu:Hid (∀ k,k<n->(L.take (k+1)).flatMap iM=(L.take k).flatMap iM++iM (pat L k)):=zh (fun k hk=>zDa L k (by omega));have Zv:Hid (L.take n=L):=zh (aS (by omega));have jJ:=zh fT;have hcap:n<=9223372036854775807:=by omega
 clear h fT
 go_enter func33,ntmps33
 go_upto_region 1 with fail;change Code.wp _ _ _ _ ((w.alloc (.cells (zM i l r a n c) 27)).alloc (.cells (zM 0 0 false none 0 0) 31));obtain ⟨W0,hW0,fJ,hbr,fS,Cv⟩:=zEx w i l r a n c 27 31;rw[hW0];clear hW0;have k0:=fJ.c0;have k1:=fJ.c1;have k2:=fJ.c2;have lY:=zh fJ;have jC:=zh hbr;have eP:=zh fS;have hsz:=Cv;clear fJ hbr fS Cv;go_upto_region 2 with fail;clear k0 k1 k2;change Code.wp _ _ _ _ (W0.alloc (.cells (zM i l r none 0 0) 31));have fq:=zR W0 i l r none 0 0 31;have HO:=zh (fp.new W0 i l r none 0 0 31);have HX:=zh (lY.o.bb fq);have mH:=zh (jC.o.bb fq);have HB:=zh (zA eP.o fq);clear fq lY jC eP;generalize W0.alloc (.cells (zM i l r none 0 0) 31)=W1 at *;rw[hsz] at HO;clear hsz;clear W0;have hlo:=HO.o.lt;have k3:=HX.o.c3;go_wp2_with fail;clear k3
 go_loopw [16] (fun iv V=>∃ (k:Nat) (a':Option Addr) (c':Nat),iv=.int .i64 (k:Int)/\k<=n/\Hid (V.ownsRow W1.heap.size 113 14 (.slice a' k c') k ((L.take k).flatMap iM))/\Hid (fp V (w.heap.size+2) i l r a' k c')/\Hid (fp V (w.heap.size+1) 0 0 false none 0 0)/\Hid (Below w.heap.size w V)/\Hid (W1.heap.size<=V.heap.size)) (fun iv _=>n-(intOf iv).toNat)
 case atStart=>exact ⟨0,none,0,rfl,aq _,zh (aP _ _ _ _),HO,mH,HB,zh (ag _)⟩
 clear HO mH HB HX;obtain ⟨k,a',c',rfl,hk,rU,HO,mH,HB,jb⟩:=hrel
 by_cases hlt:k<n
 ·have i1:(k:Int)<(n:Int):=by omega
  have hR:=HR.o.bb HB.o;obtain ⟨b,off,rfl,hg⟩:=hR.at hlt;have hfl:=Zu.o k hlt;clear hR;generalize pat L k=p at *;obtain ⟨⟨num,rev,md,sz,⟨fs,LV,GA⟩⟩,s⟩:=p
  try dsimp only at hfl
  obtain ⟨g0,g1,g2,g3,g4,g5,g6,g7,g8,g9,g10,g11,g12,g13⟩:=hg
  try dsimp only at g0 g1 g2 g3 g4 g5 g6 g7 g8 g9 g10 g11 g12 g13
  go_upto_region 5 with fail;clear g0 g1 g2 g3 g4 g5 g6 g7 g8 g9 g10 g11 g12 g13;change Code.wp _ _ _ _ (wr.alloc (.cells (zU num rev md sz s LV GA) 38));have fq:=zT wr num rev md sz s LV GA 38;have HG:=zh (eU.new wr num rev md sz s LV GA 38);replace rU:=zh (zE rU.o fq);replace HO:=zh (HO.o.bb fq);replace mH:=zh (mH.o.bb fq);replace HB:=zh (zA HB.o fq);replace jb:=zh (ak jb.o fq.size);clear fq;generalize wr.alloc (.cells (zU num rev md sz s LV GA) 38)=v0 at *;generalize wr.heap.size=bg at *;have M_:=zh hfl;have jO:=zh (NK ((⟨num,rev,md,sz,⟨fs,LV,GA⟩⟩:Gn),s));clear hfl
  refine xD [eT (.pointer (some ⟨w.heap.size+2,3,none⟩)),eT (.slice a' k c'),eT (ze num rev md sz s LV GA),eT (ze num rev md sz s LV GA),zNm ((⟨num,rev,md,sz,⟨fs,LV,GA⟩⟩:Gn),s)] [] 29 (by kernel_rfl) (by kernel_rfl) (by rfl) (by kernel_rfl) (fun f=>by simp[fU,zW,Act.put];exact rfl) ?_ ?_
  ·refine ⟨?_,?_,?_,?_,?_,trivial⟩
   ·intro f w1 hb hd;clear hd;dsimp only;go_wp2_with fail;exact pS rfl (by simp)
   ·intro f w1 hb hd;have d0:f 0=_:=hd 0 (by kernel_rfl);clear hd;dsimp only;rw[d0];have q3:=(HO.o.bb hb).c3;go_wp2_with fail;exact pS rfl (by simp)
   ·intro f w1 hb hd;clear hd;dsimp only;have zo:=HG.o.bb hb;obtain ⟨q0,q1,q2,q3,q4,q5,q6,q7,q8,q9,w_,y_,z_,Aa⟩:=zo.q;clear zo;go_wp2_with fail;exact pS rfl (by simp)
   ·intro f w1 hb hd;have d2:f 2=_:=hd 2 (by kernel_rfl);clear hd;dsimp only;rw[d2];go_wp2_with fail;refine (zIe num rev md sz s LV GA w1).mono ?_;rintro e w9 ⟨rfl,gy⟩;go_wp2_with fail;exact pT rfl (by simp) gy
   intro f w1 hb hd;have d3:f 3=_:=hd 3 (by kernel_rfl);clear hd;dsimp only;rw[d3];have Ar:=zh (Rd.jR w1.heap.size w1 rfl 14 (iM ((⟨num,rev,md,sz,⟨fs,LV,GA⟩⟩:Gn),s)) 113 1 rfl (by decide));have mU:=zh ((aj w1.heap.size w1).alloc (ag _) (.cells (iM ((⟨num,rev,md,sz,⟨fs,LV,GA⟩⟩:Gn),s)).toArray 113));go_wp2_with fail;refine ⟨rfl,?_,?_⟩
   ·exact mU.o
   intro t ht;injection ht with ht;subst ht;refine ⟨⟨_,rfl,?_⟩,fun h=>by simp at h⟩;exact Ar.o
  intro f' w5 hb hd iX;clear iX;have d1:f' 1=_:=hd 1 (by simp);obtain ⟨j4,d4,hr4⟩:=hd 4 (by simp)
  try dsimp only
  rw[d1,d4];clear hd d1 d4;generalize f' 0=z0;generalize f' 2=z2;generalize f' 3=z3;clear f';have fW:=zE rU.o hb;have DN:=ak jb.o hb.size;have Na:=HO.o.bb hb;have Nb:=mH.o.bb hb;have Nc:=zA HB.o hb;refine zP rfl (.tmp 21) (.tmp 24) 29 rfl NJ W1.heap.size rfl fW rfl hr4 jO.o (by unfold maxLen;omega) (by omega) DN ?_;intro v8 w8 gw iW _;obtain ⟨ra,rc,rfl,_⟩:=zG gw;rw[<- M_.o] at gw;have DO:=Na.Bj iW (Tc fW hlo);have Nf:=Nb.Bj iW (Tc fW (show w.heap.size+1<W1.heap.size by omega));have Ng:=Nc.trans ((zK (aj W1.heap.size w5) fW DN iW).mono (show w.heap.size<=W1.heap.size by omega));have Nh:=ak DN iW.size;have q3:=DO.c3;have qf:=DO.f;go_wp2_with fail
  exact ⟨⟨k+1,ra,rc,by go_num,by omega,zh (xY (b:=w.heap.size+2) hlo gw [(3,.slice ra (k+1) rc)]),zh (DO.Ds ra (k+1) rc),zh (Nf.eL (d:=w.heap.size+2) (by omega) [(3,.slice ra (k+1) rc)]),zh (zC (B:=w.heap.size) (b:=w.heap.size+2) (by omega) [(3,.slice ra (k+1) rc)] Ng),zh (show W1.heap.size<=(pts w8 (w.heap.size+2) [(3,.slice ra (k+1) rc)]).heap.size by rw[wh];exact Nh)⟩,by simp[intOf];omega⟩
 have i1:¬ (k:Int)<(n:Int):=by omega
 obtain rfl:k=n:=by omega
 rw[Zv.o] at rU;obtain ⟨k0,k1,k2,k3⟩:=HO.o.q;have jT:w.heap.size+1<W1.heap.size:=by omega
 obtain ⟨z0,z1,z2,z3⟩:=mH.o.q;have zf:=mH.o.f;go_wp2_with fail;change bodyPost _ _ _ _ _ (pts wr (w.heap.size+1) (zI i l r a' k c'));have rR:Hid (fB (pts wr (w.heap.size+1) (zI i l r a' k c')) (.slice a' k c') L):=zh (uk (xY (b:=w.heap.size+1) (by omega) rU.o _) jJ.o.symm (fun p hp=>(HR.o.m p hp).bb (zC (B:=w.heap.size) (b:=w.heap.size+1) (by omega) (zI i l r a' k c') HB.o)));have hby:=mH.o.all i l r a' k c';have eN:=zh (zC (B:=w.heap.size) (b:=(w.heap.size+1)) (by omega) (zI i l r a' k c') HB.o);generalize pts wr (w.heap.size+1) (zI i l r a' k c')=V at *;exact au (v:=zQ i l r a' k c') (by simp[results,results33,go_sem,hby.c0,hby.c1,hby.c2,hby.c3]) rfl (⟨⟨a',c',rfl,rR.o⟩,eN.o⟩)
end Go.Proofs.YtcgfilmmokmdjaaGreat
