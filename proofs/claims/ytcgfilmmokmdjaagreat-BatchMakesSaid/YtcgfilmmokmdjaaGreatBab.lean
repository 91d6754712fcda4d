import Derived.Test.YtcgfilmmokmdjaaGreatQAM
set_option linter.all false
set_option maxRecDepth 100000
set_option maxHeartbeats 32000000
namespace Go.Proofs.YtcgfilmmokmdjaaGreat
open Go.RowKit
theorem zIg (s:Sl) (L G:Int) (w:World):Calls Tryz.prog 109 #[yF s L G] w fun e w'=>e=.returned (yF s L G)∧Below w.heap.size w w':=by
 obtain ⟨W0,hW0⟩:∃ W0,(w.alloc (.cells (yj s L G) 111)).alloc (.cells (yj Sl.nil 0 0) 36)=W0:=⟨_,rfl⟩
 have HX:=zh (show eQ W0 w.heap.size s L G from hW0▸((eQ.new w s L G 111).below (zb _ Sl.nil 0 0 36)));have HY:=zh (show eQ W0 (w.heap.size+1) Sl.nil 0 0 from hW0▸(by have:=eQ.new (w.alloc (.cells (yj s L G) 111)) Sl.nil 0 0 36;simpa using this));have HB:=zh (show Below w.heap.size w W0 from hW0▸zA (zb w s L G 111) (zb _ Sl.nil 0 0 36));have BF:=zh hW0;clear hW0
 go_enter Tryz.func109,Tryz.ntmps109
 go_upto_region 1 with fail;have hW0:=BF.out;rw[show (w.alloc (.cells (yj s L G) 111)).alloc (.cells #[.slice none 0 0,.slice none 0 0,.slice none 0 0,.slice none 0 0,.slice none 0 0,.slice none 0 0,.slice none 0 0,.slice none 0 0,.int .i64 0,.int .i64 0] 36)=W0 from hW0];clear hW0 BF;obtain ⟨c0,c1,c2,c3,c4,c5,c6,c7,c8,c9⟩:=HX.out.q;have cF:=HX.out.f;obtain ⟨d0,d1,d2,d3,d4,d5,d6,d7,d8,d9⟩:=HY.out.q;have dF:=HY.out.f;go_wp2_with fail;change bodyPost _ _ _ _ _ (yH W0 (w.heap.size+1) s L G);have hby:=HY.out.all s L G;have eD:=zh (za HB.out (show w.heap.size≤w.heap.size+1 by omega) s L G);generalize yH W0 (w.heap.size+1) s L G=V9 at *;exact au (v:=yF s L G) (by simp[results,Tryz.results109,go_sem,hby.q]) rfl ⟨rfl,eD.out⟩
theorem zIM (n r md z:Int) (s:Sl) (L G:Int) (w:World):Calls Tryz.prog 67 #[zd n r md z s L G] w fun e w'=>e=.returned (zd n r md z s L G)∧Below w.heap.size w w':=by
 obtain ⟨W0,hW0⟩:∃ W,w.alloc (.cells (zX n r md z s L G) 113)=W:=⟨_,rfl⟩
 have nV:=zh (show eO W0 w.heap.size n r md z s L G from hW0▸eO.new w n r md z s L G 113);have eH:=zh (show Below w.heap.size w W0 from hW0▸zZ w n r md z s L G 113);have HR:=zh (eO.new W0 0 0 0 0 Sl.nil 0 0 38);have HX:=zh (nV.out.below (zZ W0 0 0 0 0 Sl.nil 0 0 38));have HB:=zh (zA eH.out (zZ W0 0 0 0 0 Sl.nil 0 0 38));have hlz:w.heap.size≤W0.heap.size:=eH.out.size;have hz0:W0.heap.size=w.heap.size+1:=by rw[← hW0];simp
 go_enter Tryz.func67,Tryz.ntmps67
 go_upto_region 1 with fail;change Code.wp _ _ _ _ (W0.alloc (.cells (zX 0 0 0 0 Sl.nil 0 0) 38));clear hW0 nV eH;obtain ⟨W,hW⟩:∃ W,W0.alloc (.cells (zX 0 0 0 0 Sl.nil 0 0) 38)=W:=⟨_,rfl⟩
 rw[hW] at HX HB HR ⊢;clear hW;rw[hz0] at HR;clear hz0;refine xO [eR (.pointer (some ⟨w.heap.size,0,none⟩)),eR (.int .i64 n),eR (.pointer (some ⟨w.heap.size,1,none⟩)),eR (.int .i64 r),eR (.pointer (some ⟨w.heap.size,2,none⟩)),eR (.int .i64 md),eR (.pointer (some ⟨w.heap.size,3,none⟩)),eR (.int .i64 z),eR (.pointer (some ⟨w.heap.size,4,none⟩)),eR (yF s L G),eR (yF s L G),eR (zd n r md z s L G)] [] 15 (by kernel_rfl) (by kernel_rfl) (by rfl) (by kernel_rfl) (fun f=>by simp[fF,zT,Act.put];exact rfl) ?_ ?_
 ·
  refine ⟨?_,?_,?_,?_,?_,?_,?_,?_,?_,?_,?_,?_,trivial⟩
  ·
   intro f w1 hb hd;clear hd;dsimp only;go_wp2_with fail;exact pS rfl (by simp)
  ·
   intro f w1 hb hd;have d0:f 0=(.pointer (some ⟨w.heap.size,0,none⟩)):=hd 0 (by kernel_rfl);clear hd;dsimp only;rw[d0];have q0:=(HX.out.below hb).n0;go_wp2_with fail;exact pS rfl (by simp)
  ·
   intro f w1 hb hd;clear hd;dsimp only;go_wp2_with fail;exact pS rfl (by simp)
  ·
   intro f w1 hb hd;have d2:f 2=(.pointer (some ⟨w.heap.size,1,none⟩)):=hd 2 (by kernel_rfl);clear hd;dsimp only;rw[d2];have q0:=(HX.out.below hb).n1;go_wp2_with fail;exact pS rfl (by simp)
  ·
   intro f w1 hb hd;clear hd;dsimp only;go_wp2_with fail;exact pS rfl (by simp)
  ·
   intro f w1 hb hd;have d4:f 4=(.pointer (some ⟨w.heap.size,2,none⟩)):=hd 4 (by kernel_rfl);clear hd;dsimp only;rw[d4];have q0:=(HX.out.below hb).n2;go_wp2_with fail;exact pS rfl (by simp)
  ·
   intro f w1 hb hd;clear hd;dsimp only;go_wp2_with fail;exact pS rfl (by simp)
  ·
   intro f w1 hb hd;have d6:f 6=(.pointer (some ⟨w.heap.size,3,none⟩)):=hd 6 (by kernel_rfl);clear hd;dsimp only;rw[d6];have q0:=(HX.out.below hb).n3;go_wp2_with fail;exact pS rfl (by simp)
  ·
   intro f w1 hb hd;clear hd;dsimp only;go_wp2_with fail;exact pS rfl (by simp)
  ·
   intro f w1 hb hd;have d8:f 8=(.pointer (some ⟨w.heap.size,4,none⟩)):=hd 8 (by kernel_rfl);clear hd;dsimp only;rw[d8];have zo:=HX.out.below hb;obtain ⟨q0,q1,q2,q3,q4,q5,q6,q7,q8,q9,Dq,Dr,Ds,Dt⟩:=zo.q;clear zo;go_wp2_with fail;exact pS rfl (by simp)
  ·
   intro f w1 hb hd;have d9:f 9=(yF s L G):=hd 9 (by kernel_rfl);clear hd;dsimp only;rw[d9];go_wp2_with fail;refine (zIg s L G w1).mono ?_;rintro e w9 ⟨rfl,gI⟩;go_wp2_with fail;exact pT rfl (by simp) gI
  intro f w1 hb hd;have d1:f 1=(.int .i64 n):=hd 1 (by kernel_rfl);have d3:f 3=(.int .i64 r):=hd 3 (by kernel_rfl);have d5:f 5=(.int .i64 md):=hd 5 (by kernel_rfl);have d7:f 7=(.int .i64 z):=hd 7 (by kernel_rfl);have d10:f 10=(yF s L G):=hd 10 (by kernel_rfl);clear hd;dsimp only;rw[d1];rw[d3];rw[d5];rw[d7];rw[d10];go_wp2_with fail;exact pS rfl (by simp)
 intro f w5 hb hd jw;clear jw;have d11:f 11=(zd n r md z s L G):=hd 11 (show 11<12 by decide)
 try dsimp only
 rw[d11];clear hd d11;generalize f 0=rI,f 1=rJ,f 2=pY,f 3=pZ,f 4=p_,f 5=q_,f 6=rK,f 7=B9,f 8=Lf,f 9=CQ,f 10=o6;clear f;have HY:=zh (HR.out.below hb);have gH:=zh (zA HB.out hb);clear hb;have rf:=HY.out.f;obtain ⟨r0,r1,r2,r3,r4,r5,r6,r7,r8,r9,mW,mC,nB,oJ⟩:=HY.out.q;go_wp2_with fail;change bodyPost _ _ _ _ _ (pts w5 (w.heap.size+1) (zQ n r md z s L G));have hby:=HY.out.all n r md z s L G;have eD:=zh (zD (B:=w.heap.size) (b:=w.heap.size+1) (by omega) (zQ n r md z s L G) gH.out);generalize pts w5 (w.heap.size+1) (zQ n r md z s L G)=V at *;exact au (v:=zd n r md z s L G) (by simp[results,Tryz.results67,go_sem,hby.q]) rfl ⟨rfl,eD.out⟩
theorem zHA (i l:Int) (r:Bool) (a:Option Addr) (n c:Nat) (L:List GP) (w:World) (h:fD w (.slice a n c) L) (hn:n≤1000000) :
  Calls Tryz.prog 23 #[zO i l r a n c] w fun e w'=>(∃ a' c',e=.returned (zO i l r a' n c')∧fD w' (.slice a' n c') L)∧Below w.heap.size w w':=by
 have fO:L.length=n:=by
  obtain ⟨_,_,e,_⟩:=h.shape;injection e with _ e _;exact e.symm
 have HR:=zh h;have G5:=zh (show ∀ k,k<n→pat L k∈L from fun k hk=>yX (by omega));have HFl:=zh (show ∀ k,k<n→(L.take (k+1)).flatMap iL=(L.take k).flatMap iL++iL (pat L k) from fun k hk=>zHW L k (by omega));have HTn:=zh (show L.take n=L from aS (by omega));have jb:=zh fO;have hcap:n≤9223372036854775807:=by omega
 clear h fO
 go_enter Tryz.func23,Tryz.ntmps23
 go_upto_region 1 with fail;change Code.wp _ _ _ _ ((w.alloc (.cells (zK i l r a n c) 31)).alloc (.cells (zK 0 0 false none 0 0) 27));obtain ⟨W0,hW0,fM,hbr,fU,ES⟩:=zIV w i l r a n c 31 27;rw[hW0];clear hW0;have k0:=fM.c0;have k1:=fM.c1;have k2:=fM.c2;have nV:=zh fM;have jf:=zh hbr;have eH:=zh fU;have hsz:=ES;clear fM hbr fU ES;go_upto_region 2 with fail;clear k0 k1 k2;change Code.wp _ _ _ _ (W0.alloc (.cells (zK i l r none 0 0) 27));have fH:=zM W0 i l r none 0 0 27;have HO:=zh (eW.new W0 i l r none 0 0 27);have HX:=zh (nV.out.below fH);have oC:=zh (jf.out.below fH);have HB:=zh (zA eH.out fH);clear fH nV jf eH;generalize W0.alloc (.cells (zK i l r none 0 0) 27)=W1 at *;rw[hsz] at HO;clear hsz;clear W0;have hlo:=HO.out.lt;have k3:=HX.out.c3;go_wp2_with fail;clear k3
 go_loopw [16] (fun iv V=>∃ (k:Nat) (a':Option Addr) (c':Nat),iv=.int .i64 (k:Int)∧k≤n∧Hid (V.ownsRow W1.heap.size 38 14 (.slice a' k c') k ((L.take k).flatMap iL))∧Hid (eW V (w.heap.size+2) i l r a' k c')∧Hid (eW V (w.heap.size+1) 0 0 false none 0 0)∧Hid (Below w.heap.size w V)∧Hid (W1.heap.size≤V.heap.size)) (fun iv _=>n-(intOf iv).toNat)
 case atStart=>exact ⟨0,none,0,rfl,aq _,zh (aT _ _ _ _),HO,oC,HB,zh (ag _)⟩
 clear HO oC HB HX;obtain ⟨k,a',c',rfl,hk,CG,HO,oC,HB,jl⟩:=hrel
 by_cases hlt:k<n
 ·
  have i1:(k:Int)<(n:Int):=by omega
  have hR:=HR.out.below HB.out;obtain ⟨b,off,rfl,hg⟩:=hR.at hlt;have hfl:=HFl.out k hlt;clear hR;generalize pat L k=p at *;obtain ⟨⟨num,rev,md,sz,⟨fs,LV,GA⟩⟩,s⟩:=p
  try dsimp only at hfl
  obtain ⟨g0,g1,g2,g3,g4,g5,g6,g7,g8,g9,g10,g11,g12,g13⟩:=hg
  try dsimp only at g0 g1 g2 g3 g4 g5 g6 g7 g8 g9 g10 g11 g12 g13
  go_upto_region 5 with fail;clear g0 g1 g2 g3 g4 g5 g6 g7 g8 g9 g10 g11 g12 g13;change Code.wp _ _ _ _ (wr.alloc (.cells (zX num rev md sz s LV GA) 113));have fH:=zZ wr num rev md sz s LV GA 113;have HG:=zh (eO.new wr num rev md sz s LV GA 113);replace CG:=zh (zG CG.out fH);replace HO:=zh (HO.out.below fH);replace oC:=zh (oC.out.below fH);replace HB:=zh (zA HB.out fH);replace jl:=zh (ak jl.out fH.size);clear fH;generalize wr.alloc (.cells (zX num rev md sz s LV GA) 113)=v0 at *;generalize wr.heap.size=bg at *;have VJ:=zh hfl;have jH:=zh (P5 ((⟨num,rev,md,sz,⟨fs,LV,GA⟩⟩:Gn),s));clear hfl
  refine xO [eR (.pointer (some ⟨w.heap.size+2,3,none⟩)),eR (.slice a' k c'),eR (zd num rev md sz s LV GA),eR (zd num rev md sz s LV GA),zMg ((⟨num,rev,md,sz,⟨fs,LV,GA⟩⟩:Gn),s)] [] 29 (by kernel_rfl) (by kernel_rfl) (by rfl) (by kernel_rfl) (fun f=>by simp[fF,zT,Act.put];exact rfl) ?_ ?_
  ·
   refine ⟨?_,?_,?_,?_,?_,trivial⟩
   ·
    intro f w1 hb hd;clear hd;dsimp only;go_wp2_with fail;exact pS rfl (by simp)
   ·
    intro f w1 hb hd;have d0:f 0=(.pointer (some ⟨w.heap.size+2,3,none⟩)):=hd 0 (by kernel_rfl);clear hd;dsimp only;rw[d0];have q3:=(HO.out.below hb).c3;go_wp2_with fail;exact pS rfl (by simp)
   ·
    intro f w1 hb hd;clear hd;dsimp only;have zo:=HG.out.below hb;obtain ⟨q0,q1,q2,q3,q4,q5,q6,q7,q8,q9,Dq,Dr,Ds,Dt⟩:=zo.q;clear zo;go_wp2_with fail;exact pS rfl (by simp)
   ·
    intro f w1 hb hd;have d2:f 2=(zd num rev md sz s LV GA):=hd 2 (by kernel_rfl);clear hd;dsimp only;rw[d2];go_wp2_with fail;refine (zIM num rev md sz s LV GA w1).mono ?_;rintro e w9 ⟨rfl,gI⟩;go_wp2_with fail;exact pT rfl (by simp) gI
   intro f w1 hb hd;have d3:f 3=(zd num rev md sz s LV GA):=hd 3 (by kernel_rfl);clear hd;dsimp only;rw[d3];have Du:=zh (Rd.jD w1.heap.size w1 rfl 14 (iL ((⟨num,rev,md,sz,⟨fs,LV,GA⟩⟩:Gn),s)) 38 1 rfl (by decide));have lC:=zh ((aj w1.heap.size w1).alloc (ag _) (.cells (iL ((⟨num,rev,md,sz,⟨fs,LV,GA⟩⟩:Gn),s)).toArray 38));go_wp2_with fail;refine ⟨rfl,?_,?_⟩
   ·
    exact lC.out
   intro t ht;injection ht with ht;subst ht;refine ⟨⟨_,rfl,?_⟩,fun h=>by simp at h⟩;exact Du.out
  intro f' w5 hb hd jw;clear jw;have d1:f' 1=.slice a' k c':=hd 1 (show 1<5 by decide);obtain ⟨j4,d4,hr4⟩:=show ∃ j,f' 4=.slice (some ⟨j,0,none⟩) 1 1∧Rd w5 14 (.slice (some ⟨j,0,none⟩) 1 1) 1 (iL ((⟨num,rev,md,sz,⟨fs,LV,GA⟩⟩:Gn),s)) from hd 4 (show 4<5 by decide)
  try dsimp only
  rw[d1,d4];clear hd d1 d4;generalize f' 0=z0;generalize f' 2=z2;generalize f' 3=z3;clear f';have gG:=zG CG.out hb;have DM:=ak jl.out hb.size;have VK:=HO.out.below hb;have VL:=oC.out.below hb;have VM:=zA HB.out hb;refine zP rfl (.tmp 21) (.tmp 24) 25 rfl Zl W1.heap.size rfl gG rfl hr4 jH.out (by unfold maxLen;omega) (by omega) DM ?_;intro v8 w8 f_ iP _;obtain ⟨ra,rc,rfl,_⟩:=zH f_;rw[← VJ.out] at f_;have KC:=VK.EK iP (Zm gG hlo);have VN:=VL.EK iP (Zm gG (show w.heap.size+1<W1.heap.size by omega));have VO:=VM.trans ((zL (aj W1.heap.size w5) gG DM iP).mono (show w.heap.size≤W1.heap.size by omega));have VP:=ak DM iP.size;have q3:=KC.c3;have qf:=KC.f;go_wp2_with fail
  exact ⟨⟨k+1,ra,rc,by go_num,by omega,zh (wI (b:=w.heap.size+2) hlo f_ [(3,.slice ra (k+1) rc)]),zh (KC.EH ra (k+1) rc),zh (VN.eE (d:=w.heap.size+2) (by omega) [(3,.slice ra (k+1) rc)]),zh (zD (B:=w.heap.size) (b:=w.heap.size+2) (by omega) [(3,.slice ra (k+1) rc)] VO),zh (show W1.heap.size≤(pts w8 (w.heap.size+2) [(3,.slice ra (k+1) rc)]).heap.size by rw[uf];exact VP)⟩,by simp[intOf];omega⟩
 have i1:¬ (k:Int)<(n:Int):=by omega
 obtain rfl:k=n:=by omega
 rw[HTn.out] at CG;obtain ⟨k0,k1,k2,k3⟩:=HO.out.q;have jy:w.heap.size+1<W1.heap.size:=by omega
 obtain ⟨z0,z1,z2,z3⟩:=oC.out.q;have zf:=oC.out.f;go_wp2_with fail;change bodyPost _ _ _ _ _ (pts wr (w.heap.size+1) (zR i l r a' k c'));have Cz:=zh (show fD (pts wr (w.heap.size+1) (zR i l r a' k c')) (.slice a' k c') L from qQ (wI (b:=w.heap.size+1) (by omega) CG.out _) jb.out.symm (fun p hp=>(HR.out.m p hp).below (zD (B:=w.heap.size) (b:=w.heap.size+1) (by omega) (zR i l r a' k c') HB.out)));have hby:=oC.out.all i l r a' k c';have eD:=zh (zD (B:=w.heap.size) (b:=(w.heap.size+1)) (by omega) (zR i l r a' k c') HB.out);generalize pts wr (w.heap.size+1) (zR i l r a' k c')=V at *;exact au (v:=zO i l r a' k c') (by simp[results,Tryz.results23,go_sem,hby.c0,hby.c1,hby.c2,hby.c3]) rfl (⟨⟨a',c',rfl,Cz.out⟩,eD.out⟩)
end Go.Proofs.YtcgfilmmokmdjaaGreat
