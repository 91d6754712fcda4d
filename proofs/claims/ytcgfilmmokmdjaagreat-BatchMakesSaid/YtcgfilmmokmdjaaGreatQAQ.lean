import Derived.Test.YtcgfilmmokmdjaaGreatQAP
import Derived.Test.YtcgfilmmokmdjaaGreatSkb
import Derived.Test.YtcgfilmmokmdjaaGreatQAH
import Derived.Test.YtcgfilmmokmdjaaGreatQAK
import Derived.Test.YtcgfilmmokmdjaaGreatQAL
set_option linter.all false
set_option maxRecDepth 100000
set_option maxHeartbeats 32000000
namespace Go.Proofs.YtcgfilmmokmdjaaGreat
open Go.RowKit
def D6 (w0:World) (p:eX×Int) (e:Ending) (w':World):Prop:=(∃ a n c L,e=.returned (.tuple #[zO p.1.id p.1.lim p.1.ro a n c,.int .i64 p.2])∧ia w' w0.heap.size (.slice a n c) n L∧ep L=p.1.dY)∧Below w0.heap.size w0 w'
theorem ia.nil (w:World) (B:Nat):ia w B (.slice Option.none 0 0) 0 []:=⟨aT _ _ _ _,rfl,fun p hp=>by cases hp⟩
theorem D6.no {w0 w:World} {c:Int} (h:Below w0.heap.size w0 w):D6 w0 (xh,c) (.returned (.tuple #[zO 0 0 false Option.none 0 0,.int .i64 c])) w:=⟨⟨Option.none,0,0,[],rfl,ia.nil _ _,rfl⟩,h⟩
theorem zG6 {s:eX} (hV:eT s) {k:Nat} (hk:k<s.dY.length) {y:Gn} (h:(eV s.dY k).num=y.num):tH s.dY y=s.dY.set k y:=by
 have AK:∀ i j,i<j→j<s.dY.length→(eV s.dY i).num<(eV s.dY j).num:=by
  intro i j hij
  induction j with
  |zero=>omega
  |succ j ih =>
   intro hj;have h1:=(hV.g (j+1) hj).2.1 (by omega);rw[show j+1-1=j by omega] at h1
   by_cases e:i=j
   ·
    subst e;exact h1
   have:=ih (by omega) (by omega);omega
 refine List.ext_getElem? fun i=>?_
 unfold tH;rw[b_,dB]
 by_cases hi:i<s.dY.length
 ·
  have eg:eV s.dY i=s.dY[i]:=by unfold eV;rw[ax,aB hi];rfl
  rw[aB hi,← eg]
  by_cases e:k=i
  ·
   subst e;simp[h,hi]
  rw[ai e];have hne:(eV s.dY i).num≠y.num:=by
   rw[← h];rcases Nat.lt_or_gt_of_ne e with h1|h1
   ·
    have:=AK k i h1 hi;omega
   have:=AK i k h1 hk;omega
  simp[hne]
 rw[dX (by omega)]
 by_cases e:k=i
 ·
  omega
 rw[ai e];rfl
theorem zLh (g:Gn) (s:Sl) (w:World) (h:fG w s g.m.st) (hs:∀ i,i<8→(g.m.st i).length≤10000) :
  Calls Tryz.prog 61 #[zd g.num g.rev g.mode g.size s g.m.live g.m.d_] w (KZ w (xx g 1)):=by
 have HT:=zh (fun W (hb:Below w.heap.size w W)=>zJs g s 1 W (h.below hb) hs);clear hs;generalize xx g 1=TG at *;obtain ⟨n,r,md,z,⟨f,L,G⟩⟩:=g;dsimp only at *;obtain ⟨W,hW,fM,hbr,fU⟩:=wv w n r md z s L G 38;have HX:=zh fM;have HR:=zh hbr;have HB:=zh fU;clear fM hbr fU h
 go_enter Tryz.func61,Tryz.ntmps61
 go_upto_region 1 with fail;change Code.wp _ _ _ _ ((w.alloc (.cells (zX n r md z s L G) 38)).alloc (.cells (zX 0 0 0 0 Sl.nil 0 0) 38));rw[hW];clear hW;obtain ⟨x0,x1,x2,x3,x4,x5,x6,x7,x8,x9,gq,gu,gj,gl⟩:=HX.out.q;go_wp2_with fail;refine (HT.out _ HB.out).mono ?_;rintro e w1 ⟨⟨t,rfl,hr⟩,hb⟩;have Bi:=zh (hr.mono (show w.heap.size+2≤W.heap.size by have:=HR.out.lt;omega));have fq:=zh (HR.out.below hb);have eP:=zh (zA HB.out hb);have hlr:=HR.out.lt;clear x0 x1 x2 x3 x4 x5 x6 x7 x8 x9 gq gu gj gl;clear hr HX HT HR HB;obtain ⟨er,⟨n',r',md',z',⟨f',L',G'⟩⟩⟩:=TG;dsimp only at *;obtain ⟨r0,r1,r2,r3,r4,r5,r6,r7,r8,r9,mW,mC,nB,oJ⟩:=fq.out.q;have rf:=fq.out.f;go_wp2_with fail;change bodyPost _ _ _ _ _ (pts w1 (w.heap.size+1) (zQ n' r' md' z' t L' G'));have hby:=fq.out.all n' r' md' z' t L' G'
 have eD:=zh (zD (B:=w.heap.size) (b:=(w.heap.size+1)) (by omega) (zQ n' r' md' z' t L' G') eP.out);have gW:=(Bi.out.pts (show w.heap.size+1<w.heap.size+2 by omega) (zQ n' r' md' z' t L' G')).mono (show w.heap.size≤w.heap.size+2 by omega);generalize pts w1 (w.heap.size+1) (zQ n' r' md' z' t L' G')=V at *;exact au (v:=.tuple #[zd n' r' md' z' t L' G',.int .i64 er]) (by simp[results,Tryz.results61,go_sem,hby.q]) rfl ⟨⟨_,rfl,gW⟩,eD.out⟩
theorem zKh (i l:Int) (r:Bool) (a:Option Addr) (n c:Nat) (L:List GP) (w:World) (h:fD w (.slice a n c) L) (hs:∀ p∈L,∀ j,j<8→(p.1.m.st j).length≤10000) (y:GP) (hy:fG w y.2 y.1.m.st) (pj:∀ j,j<8→(y.1.m.st j).length≤10000) (hv:zY ⟨i,l,r,ep L⟩=false) :
  Calls Tryz.prog 14 #[zO i l r a n c,zd y.1.num y.1.rev y.1.mode y.1.size y.2 y.1.m.live y.1.m.d_] w (D6 w (yV ⟨i,l,r,ep L⟩ y.1)):=by
 have fQ:=zh (fun W (hb:Below w.heap.size w W)=>xD i l r a n c L W (h.below hb) hs);have HC:=zh (show yV ⟨i,l,r,ep L⟩ y.1=(xh,1) by unfold yV;rw[hv];rfl);rw[hv] at fQ;clear h hs hv hy pj
 go_enter Tryz.func14,Tryz.ntmps14
 go_upto_region 1 with fail;change Code.wp _ _ _ _ (((w.alloc (.cells (zK i l r a n c) 27)).alloc (.cells (zX y.1.num y.1.rev y.1.mode y.1.size y.2 y.1.m.live y.1.m.d_) 38)).alloc (.cells (zK 0 0 false none 0 0) 27));obtain ⟨W,hW,fM,hbg,hbr,fU⟩:=vh w i l r a n c y 27 38;rw[hW];have HX:=zh fM;have HG:=zh hbg;have HR:=zh hbr;have HB:=zh fU;clear hW fM hbg hbr fU;obtain ⟨k0,k1,k2,k3⟩:=HX.out.q;go_wp2_with fail;refine (fQ.out _ HB.out).mono ?_;rintro e w1 ⟨rfl,hb⟩;replace HX:=zh (HX.out.below hb);replace HR:=zh (HR.out.below hb);replace HB:=zh (zA HB.out hb);clear hb;clear k0 k1 k2 k3;obtain ⟨z0,z1,z2,z3⟩:=HR.out.q;have zf:=HR.out.f;go_wp2_with fail;change bodyPost _ _ _ _ _ (pts w1 (w.heap.size+2) (zR 0 0 false none 0 0));have hby:=HR.out.all 0 0 false none 0 0
 have eD:=zh (zD (B:=w.heap.size) (b:=(w.heap.size+2)) (by omega) (zR 0 0 false none 0 0) HB.out);generalize pts w1 (w.heap.size+2) (zR 0 0 false none 0 0)=V at *;exact au (v:=.tuple #[zO 0 0 false none 0 0,.int .i64 1]) (by simp[results,Tryz.results14,go_sem,hby.c0,hby.c1,hby.c2,hby.c3]) rfl (by rw[HC.out];exact D6.no eD.out)
theorem zIP (i l:Int) (r:Bool) (a:Option Addr) (n c:Nat) (L:List GP) (w:World) (h:fD w (.slice a n c) L) (hs:∀ p∈L,∀ j,j<8→(p.1.m.st j).length≤10000) (y:GP) (hy:fG w y.2 y.1.m.st) (pj:∀ j,j<8→(y.1.m.st j).length≤10000) (hv:zY ⟨i,l,r,ep L⟩=true) :
  Calls Tryz.prog 14 #[zO i l r a n c,zd y.1.num y.1.rev y.1.mode y.1.size y.2 y.1.m.live y.1.m.d_] w (D6 w (yV ⟨i,l,r,ep L⟩ y.1)):=by
 have fQ:=zh (fun W (hb:Below w.heap.size w W)=>xD i l r a n c L W (h.below hb) hs);have hV:=(zW _).1 hv;have fO:L.length=n:=by
  obtain ⟨_,_,e,_⟩:=h.shape;injection e with _ e _;exact e.symm
 have hl:(ep L).length=n:=by rw[zn,fO]
 have hn:1≤n∧n≤8:=by have:=hV.len;simp only[hl] at this;exact this
 have HC:=zh (show yV ⟨i,l,r,ep L⟩ y.1=(if ug L y.1.num n=true then (if zY ⟨i,l,r,tH (ep L) y.1⟩=true then (⟨i,l,r,tH (ep L) y.1⟩,0) else (xh,1)) else (xh,6)) by
  unfold yV;rw[ah hv,TL L y.1.num n fO.symm])
 have B4:=zh (fun k (hk:k<n) (e:(pat L k).1.num=y.1.num)=>show tH (ep L) y.1=(ep L).set k y.1 from zG6 hV (k:=k) (by rw[hl];exact hk) (by rw[yv];exact e))
 have Ub:=zh (show ∀ k,k<n→(pat L k).1.num=y.1.num→ug L y.1.num n=true from fun k hk e=>by
  unfold ug
  rw[List.any_eq_true]
  refine ⟨pat L k,?_,by simp[e]⟩
  rw[aS (by omega)]
  exact yX (by omega))
 have G4:=zh (show (∀ j,j<L.length→(pat L j).1.num≠y.1.num)→ug L y.1.num n=false from fun hh=>by
  unfold ug
  rw[Bool.eq_false_iff]
  intro ht
  rw[List.any_eq_true] at ht
  obtain ⟨x,hx,e⟩:=ht
  obtain ⟨j,hj,rfl⟩:=cG (bT hx)
  have h1:=hh j hj
  unfold pat at h1
  rw[ax,aB hj] at h1
  exact h1 (bn e))
 rw[hv] at fQ;have jO:=zh h;have Gw:=zh hs;have jS:=zh hy;have CO:=zh pj;have jb:=zh fO;clear h hs hv hV fO hl hy pj;obtain ⟨⟨num,rev,md,sz,⟨fs,LV,GA⟩⟩,s⟩:=y;dsimp only at *
 go_enter Tryz.func14,Tryz.ntmps14
 go_upto_region 1 with fail;change Code.wp _ _ _ _ (((w.alloc (.cells (zK i l r a n c) 27)).alloc (.cells (zX num rev md sz s LV GA) 38)).alloc (.cells (zK 0 0 false none 0 0) 27));obtain ⟨W,hW,fM,hbg,hbr,fU⟩:=vh w i l r a n c (⟨num,rev,md,sz,⟨fs,LV,GA⟩⟩,s) 27 38;rw[hW];have HX:=zh fM;have HG:=zh hbg;have HR:=zh hbr;have HB:=zh fU;clear hW fM hbg hbr fU;have hB0:w.heap.size+3≤W.heap.size:=by have:=HR.out.lt;omega
 dsimp only at HG;obtain ⟨k0,k1,k2,k3⟩:=HX.out.q;go_wp2_with fail;refine (fQ.out _ HB.out).mono ?_;rintro e w1 ⟨rfl,hb⟩;replace HX:=zh (HX.out.below hb);replace HG:=zh (HG.out.below hb);replace HR:=zh (HR.out.below hb);replace HB:=zh (zA HB.out hb);have hB1:=ak hB0 hb.size;clear hb fQ;clear k0 k1 k2 k3;have Ny:=zh (zFY a n c L (w.heap.size+1) num rev md sz s LV GA w1 (jO.out.below HB.out) (by omega) HG.out);have k3:=HX.out.c3;go_wp2_with fail;refine Ny.out.mono ?_;rintro e w2 ⟨⟨z,rfl,hF⟩,hb⟩;replace HX:=zh (HX.out.below hb);replace HG:=zh (HG.out.below hb);replace HR:=zh (HR.out.below hb);replace HB:=zh (zA HB.out hb);have hB2:=ak hB1 hb.size;clear hb k3 Ny;rcases hF with ⟨k,hk,rfl,hkn,_⟩|⟨rfl,hF⟩
 ·
  have hk':k<n:=by rw[← jb.out];exact hk
  have Ao:=zh (HC.out.trans (ah (Ub.out k hk' hkn)));have ZP:=B4.out k hk' hkn;rw[ZP] at Ao;clear HC Ub G4 B4 ZP hk hkn;have i1:¬ (k:Int)<0:=by omega
  obtain ⟨k0,k1,k2,k3⟩:=HX.out.q;go_wp2_with fail;refine (zE0 i l r a n c L w2 (jO.out.below HB.out) Gw.out (by omega)).mono ?_;rintro e w3 hq;obtain ⟨⟨a1,c1,M,rfl,ho,hg⟩,hb⟩:=hq;have CG:=zh (ho.lower hB2);have jU:=zh hg;clear k0 k1 k2 k3 ho hg;replace HX:=zh (HX.out.below hb);replace HG:=zh (HG.out.below hb);replace HR:=zh (HR.out.below hb);replace HB:=zh (zA HB.out hb);have FK:=ak hB2 hb.size;clear hb;obtain ⟨k0,k1,k2,k3⟩:=HX.out.q;have kf:=HX.out.f;go_upto_region 7 with fail;clear k0 k1 k2 k3 kf;obtain ⟨g,rfl,hgB,rW⟩:=uV CG.out.row (by omega);have jc:=zh (HX.out.all i l r (some ⟨g,0,none⟩) n c1);have DX:=zh (HG.out.eE (c:=w.heap.size) (by omega) (zR i l r (some ⟨g,0,none⟩) n c1));have mN:=zh (HR.out.eE (d:=w.heap.size) (by omega) (zR i l r (some ⟨g,0,none⟩) n c1))
  have gD:=zh (zD (B:=w.heap.size) (b:=w.heap.size) (ag _) (zR i l r (some ⟨g,0,none⟩) n c1) HB.out);have jM:=zh (CG.out.pts (b:=w.heap.size) (by omega) (zR i l r (some ⟨g,0,none⟩) n c1));have Am:w.heap.size+3≤(pts w3 w.heap.size (zR i l r (some ⟨g,0,none⟩) n c1)).heap.size:=by rw[uf];exact FK
  clear HX HG HR HB CG;change Code.wp _ _ _ _ (pts w3 w.heap.size (zR i l r (some ⟨g,0,none⟩) n c1));generalize pts w3 w.heap.size (zR i l r (some ⟨g,0,none⟩) n c1)=w4 at *;have FU:=zh (fun W (hb:Below w4.heap.size w4 W)=>qd ⟨num,rev,md,sz,⟨fs,LV,GA⟩⟩ s W (jS.out.below (zA gD.out hb)) CO.out);dsimp only at FU;refine xO [eR (.pointer (some ⟨w.heap.size,3,none⟩)),eR (.slice (some ⟨g,0,none⟩) n c1),eR (.int .i64 (k:Int)),eR (zd num rev md sz s LV GA),ZN (w.heap.size+3) ⟨num,rev,md,sz,⟨fs,LV,GA⟩⟩] [] 31 (by kernel_rfl) (by kernel_rfl) (by rfl) (by kernel_rfl) (fun f=>by simp[fF,zT,Act.put];exact rfl) ?_ ?_
  ·
   refine ⟨?_,?_,?_,?_,?_,trivial⟩
   ·
    intro f w1 hb hd;clear hd;dsimp only;go_wp2_with fail;exact pS rfl (by simp)
   ·
    intro f w1 hb hd;have d0:f 0=(.pointer (some ⟨w.heap.size,3,none⟩)):=hd 0 (by kernel_rfl);clear hd;dsimp only;rw[d0];have q3:=(jc.out.below hb).c3;go_wp2_with fail;exact pS rfl (by simp)
   ·
    intro f w1 hb hd;clear hd;dsimp only;go_wp2_with fail;exact pS rfl (by simp)
   ·
    intro f w1 hb hd;clear hd;dsimp only;have zo:=DX.out.below hb;obtain ⟨q0,q1,q2,q3,q4,q5,q6,q7,q8,q9,Dq,Dr,Ds,Dt⟩:=zo.q;clear zo;go_wp2_with fail;exact pS rfl (by simp)
   intro f w1 hb hd;have d3:f 3=(zd num rev md sz s LV GA):=hd 3 (by kernel_rfl);clear hd;dsimp only;rw[d3];go_wp2_with fail;refine (FU.out w1 hb).mono ?_;rintro e w9 ⟨⟨s9,rfl,BU⟩,gI⟩;have lg:=zh (BU.mono (ak Am hb.size));clear BU;go_wp2_with fail;exact ⟨rfl,gI,fun t ht=>by injection ht with ht;subst ht;exact ⟨⟨s9,rfl,lg.out⟩,fun h=>by simp at h⟩⟩
  intro f w5 hb hd jw;clear jw;have d1:f 1=.slice (some ⟨g,0,none⟩) n c1:=hd 1 (show 1<5 by decide);have d2:f 2=.int .i64 (k:Int):=hd 2 (show 2<5 by decide);obtain ⟨s4,d4,G0⟩:=show ∃ s,f 4=zd num rev md sz s LV GA∧eZ w5 (w.heap.size+3) s fs from hd 4 (show 4<5 by decide);clear hd
  try dsimp only
  rw[d1,d2,d4];clear d1 d2 d4;generalize f 0=z0;generalize f 3=z3;clear f;have Nz:=jM.out.keep hb;have Ua:=zh ((P4 Nz.row Nz.len hk').there (xw Nz.row));have jN:=zh (Nz.set k hk' ((⟨num,rev,md,sz,⟨fs,LV,GA⟩⟩:Gn),s4) G0);dsimp only at jN;have fJ:=zh ((jc.out.below hb).eE (d:=g) (by omega) (Bk (k*14) num rev md sz s4 LV GA));have jx:=zh ((mN.out.below hb).eE (d:=g) (by omega) (Bk (k*14) num rev md sz s4 LV GA));have gH:=zh (zD (B:=w.heap.size) (b:=g) (by omega) (Bk (k*14) num rev md sz s4 LV GA) (zA gD.out hb));have IA:=zh (show ep (M.set k ((⟨num,rev,md,sz,⟨fs,LV,GA⟩⟩:Gn),s4))=(ep L).set k (⟨num,rev,md,sz,⟨fs,LV,GA⟩⟩:Gn) from by rw[ZM,jU.out])
  have ZQ:=zh (show ∀ p∈M.set k ((⟨num,rev,md,sz,⟨fs,LV,GA⟩⟩:Gn),s4),∀ j,j<8→(p.1.m.st j).length≤10000 from fun p hp j hj=>by
   rcases List.mem_or_eq_of_mem_set hp with hp|rfl
   ·
    have h1:p.1∈ep L:=jU.out▸cZ hp
    obtain ⟨q,hq,e⟩:=List.mem_map.1 h1
    rw[← e];exact Gw.out q hq j hj
   exact CO.out j hj)
  clear Nz G0 hb FU jc DX mN gD jM jU;change wpList _ _ _ (_::_::[]) _ _;go_wp2_with (first|((with_reducible refine wpList_store_mid ?_ 38 (.tmp 25) (.tmp 24) ?_ g (k*14) (zX num rev md sz s4 LV GA) ?_ ?_ ?_ ?_ ?_ ?_);rfl;rfl;rfl;rfl;exact Ua.out;exact Zj;exact ki _ _ _ _ _ _ _;rw[kU];generalize (pts w5 g (Bk (k*14) num rev md sz s4 LV GA))=w6 at *;have k0:=fJ.out.c0;have k1:=fJ.out.c1;have k2:=fJ.out.c2;have k3:=fJ.out.c3));refine (xD i l r (some ⟨g,0,none⟩) n c1 _ w6 jN.out.rd ZQ.out).mono ?_;rintro e w7 ⟨rfl,hb⟩;rw[IA.out];replace fJ:=zh (fJ.out.below hb);replace jx:=zh (jx.out.below hb);replace gH:=zh (zA gH.out hb);replace jN:=zh (jN.out.keep hb);clear hb k0 k1 k2 k3 ZQ;generalize D5:zY ⟨i,l,r,(ep L).set k (⟨num,rev,md,sz,⟨fs,LV,GA⟩⟩:Gn)⟩=bv at *
  cases bv
  ·
   have HC:=zh (Ao.out.trans (ai (by decide)));clear Ao D5;obtain ⟨z0,z1,z2,z3⟩:=jx.out.q;have zf:=jx.out.f;go_wp2_with fail;change bodyPost _ _ _ _ _ (pts w7 (w.heap.size+2) (zR 0 0 false none 0 0));have hby:=jx.out.all 0 0 false none 0 0;have eD:=zh (zD (B:=w.heap.size) (b:=(w.heap.size+2)) (by omega) (zR 0 0 false none 0 0) gH.out);generalize pts w7 (w.heap.size+2) (zR 0 0 false none 0 0)=V at *;exact au (v:=.tuple #[zO 0 0 false none 0 0,.int .i64 1]) (by simp[results,Tryz.results14,go_sem,hby.c0,hby.c1,hby.c2,hby.c3]) rfl (by rw[HC.out];exact D6.no eD.out)
  have HC:=zh (Ao.out.trans (ah rfl));clear Ao D5;obtain ⟨k0,k1,k2,k3⟩:=fJ.out.q;obtain ⟨z0,z1,z2,z3⟩:=jx.out.q;have zf:=jx.out.f;go_wp2_with fail;change bodyPost _ _ _ _ _ (pts w7 (w.heap.size+2) (zR i l r (some ⟨g,0,none⟩) n c1));have A1:=zh (jN.out.pts (b:=w.heap.size+2) (by omega) (zR i l r (some ⟨g,0,none⟩) n c1));have hby:=jx.out.all i l r (some ⟨g,0,none⟩) n c1;have eD:=zh (zD (B:=w.heap.size) (b:=(w.heap.size+2)) (by omega) (zR i l r (some ⟨g,0,none⟩) n c1) gH.out);generalize pts w7 (w.heap.size+2) (zR i l r (some ⟨g,0,none⟩) n c1)=V at *;exact au (v:=.tuple #[zO i l r (some ⟨g,0,none⟩) n c1,.int .i64 0]) (by simp[results,Tryz.results14,go_sem,hby.c0,hby.c1,hby.c2,hby.c3]) rfl (by rw[HC.out];exact ⟨⟨_,n,c1,_,rfl,A1.out.lower (by omega),IA.out⟩,eD.out⟩)
 have Ao:=zh (HC.out.trans (ai (by rw[G4.out hF];decide)));clear HC Ub G4 B4 hF;obtain ⟨z0,z1,z2,z3⟩:=HR.out.q;have zf:=HR.out.f;go_wp2_with fail;change bodyPost _ _ _ _ _ (pts w2 (w.heap.size+2) (zR 0 0 false none 0 0));have hby:=HR.out.all 0 0 false none 0 0;have eD:=zh (zD (B:=w.heap.size) (b:=(w.heap.size+2)) (by omega) (zR 0 0 false none 0 0) HB.out);generalize pts w2 (w.heap.size+2) (zR 0 0 false none 0 0)=V at *;exact au (v:=.tuple #[zO 0 0 false none 0 0,.int .i64 6]) (by simp[results,Tryz.results14,go_sem,hby.c0,hby.c1,hby.c2,hby.c3]) rfl (by rw[Ao.out];exact D6.no eD.out)
theorem zJG (i l:Int) (r:Bool) (a:Option Addr) (n c:Nat) (L:List GP) (w:World) (h:fD w (.slice a n c) L) (hs:∀ p∈L,∀ j,j<8→(p.1.m.st j).length≤10000) (y:GP) (hy:fG w y.2 y.1.m.st) (pj:∀ j,j<8→(y.1.m.st j).length≤10000):Calls Tryz.prog 14 #[zO i l r a n c,zd y.1.num y.1.rev y.1.mode y.1.size y.2 y.1.m.live y.1.m.d_] w (D6 w (yV ⟨i,l,r,ep L⟩ y.1)):=by
 cases hv:zY ⟨i,l,r,ep L⟩
 ·
  exact zKh i l r a n c L w h hs y hy pj hv
 exact zIP i l r a n c L w h hs y hy pj hv
theorem zKd:xt Tryz.prog 233 3 1 8:=by
 obtain ⟨i,hi,hz,hs,hb⟩:=cm (P:=Tryz.prog) (e:=3) (z:=.int .i64 0) (size:=1) (bytes:=8) (by kernel_rfl);exact ⟨Tryz.underlying233,by decide,i,_,hi,hz,hs,hb,rfl⟩
def tV (z:Int):Value:=.int .i64 z
def gF (w:World) (B:Nat) (v:Value) (l:List Int):Prop:=w.ownsRow B 3 1 v l.length (l.map tV)
theorem gF.nil (w:World) (B:Nat):gF w B (.slice none 0 0) []:=aT w B 3 1
theorem Uc (l:List Gn) (key:Int):∀ n,(vw l key n).length≤n
 |0=>aq _
 |n+1=>by
  have:=Uc l key n;unfold vw;rw[aw]
  cases zg (eV l n).m key<;>simp<;>omega
theorem zH3 (i l:Int) (r:Bool) (a:Option Addr) (n c:Nat) (L:List GP) (w:World) (h:fD w (.slice a n c) L) (hs:∀ p∈L,∀ j,j<8→(p.1.m.st j).length≤10000) (hv:zY ⟨i,l,r,ep L⟩=false) (key:Int) :
  Calls Tryz.prog 156 #[zO i l r a n c,.int .u64 key] w fun e w'=>∃ v',e=.returned v'∧gF w' w.heap.size v' (zS ⟨i,l,r,ep L⟩ key)∧Below w.heap.size w w':=by
 have fQ:=zh (fun W (hb:Below w.heap.size w W)=>zz i l r a n c L W (h.below hb) hs);rw[hv] at fQ;have HF:=zh (show zS ⟨i,l,r,ep L⟩ key=[] by unfold zS;rw[hv];rfl);have hcap:n≤9223372036854775807:=by
  show n≤maxLen
  obtain ⟨_,_,e,h1,h2⟩:=h.shape;injection e with _ e _;rw[e];exact ak h1 h2
 have eB:=zh (eW.new w i l r a n c 31);have eH:=zh (zM w i l r a n c 31);clear h hs hv
 go_enter Tryz.func156,Tryz.ntmps156
 go_upto_region 1 with fail;obtain ⟨W,hW⟩:∃ W,w.alloc (.cells (zK i l r a n c) 31)=W:=⟨_,rfl⟩
 change Code.wp _ _ _ _ (w.alloc (.cells (zK i l r a n c) 31));rw[hW] at eB eH ⊢;clear hW;obtain ⟨k0,k1,k2,k3⟩:=eB.out.q
 by_cases h1:1<n
 ·
  have i1:(1:Int)<(n:Int):=by omega
  go_wp2_with fail
  go_loopw [5,6] (fun ov iv V=>ov=.slice none 0 0∧iv=.int .i64 0∧V=W) (fun _ _ _=>0)
  case atStart=>exact ⟨rfl,rfl,rfl⟩
  obtain ⟨rfl,rfl,rfl⟩:=hrel;go_wp2_with fail;refine (fQ.out _ eH.out).mono ?_;rintro e w1 ⟨rfl,hb1⟩;have eP:=zh (zA eH.out hb1);clear k0 k1 k2 k3 hb1;go_wp2_with fail;go_ret;exact ⟨_,rfl,by rw[HF.out];exact gF.nil _ _,eP.out⟩
 have i1:¬ (1:Int)<(n:Int):=by omega
 go_wp2_with fail
 go_loopw [5,6] (fun ov iv V=>ov=.slice none 0 0∧iv=.int .i64 0∧V=W) (fun _ _ _=>0)
 case atStart=>exact ⟨rfl,rfl,rfl⟩
 obtain ⟨rfl,rfl,rfl⟩:=hrel;go_wp2_with fail;go_ret;exact ⟨_,rfl,by rw[HF.out];exact gF.nil _ _,eH.out⟩
theorem zFj (i l:Int) (r:Bool) (a:Option Addr) (n c:Nat) (L:List GP) (w:World) (h:fD w (.slice a n c) L) (hs:∀ p∈L,∀ j,j<8→(p.1.m.st j).length≤10000) (hv:zY ⟨i,l,r,ep L⟩=true) (key:Int) :
  Calls Tryz.prog 156 #[zO i l r a n c,.int .u64 key] w fun e w'=>∃ v',e=.returned v'∧gF w' w.heap.size v' (zS ⟨i,l,r,ep L⟩ key)∧Below w.heap.size w w':=by
 have fQ:=zh (fun W (hb:Below w.heap.size w W)=>zz i l r a n c L W (h.below hb) hs);rw[hv] at fQ;have fO:L.length=n:=by
  obtain ⟨_,_,e,_⟩:=h.shape;injection e with _ e _;exact e.symm
 have hV:=(zW _).1 hv;have hn:1≤n∧n≤8:=by have:=hV.len;simp only[zn,fO] at this;exact this
 obtain ⟨m,rfl⟩:∃ m,n=m+1:=⟨n-1,by omega⟩
 have HF:=zh (show zS ⟨i,l,r,ep L⟩ key=vw (ep L) key m by
  unfold zS;rw[hv,ah rfl];show vw (ep L) key ((ep L).length-1)=_;rw[zn,fO];rfl)
 have HR:=zh h;have G5:=zh (show ∀ k,k<m+1→pat L k∈L from fun k hk=>yX (by omega));have Gw:=zh hs;have NB:=zh (show ∀ k,vw (ep L) key (k+1)=vw (ep L) key k++(match zg (pat L k).1.m key with|some _=>[(pat L k).1.num]|none=>[]) from fun k=>by rw[← yv];rfl);have HOL:=zh (fun k=>Uc (ep L) key k);have eB:=zh (eW.new w i l r a (m+1) c 31);have eH:=zh (zM w i l r a (m+1) c 31);clear h hs hv hV fO
 go_enter Tryz.func156,Tryz.ntmps156
 go_upto_region 1 with fail;obtain ⟨W,hW⟩:∃ W,w.alloc (.cells (zK i l r a (m+1) c) 31)=W:=⟨_,rfl⟩
 change Code.wp _ _ _ _ (w.alloc (.cells (zK i l r a (m+1) c) 31));rw[hW] at eB eH ⊢;clear hW;go_wp2_with fail
 go_loopw [5,6] (fun ov iv V=>∃ k:Nat,iv=.int .i64 (k:Int)∧k≤m∧Hid (gF V W.heap.size ov (vw (ep L) key k))∧Hid (Below W.heap.size W V)) (fun _ iv _=>m-(intOf iv).toNat)
 case atStart=>exact ⟨0,rfl,aq _,zh (gF.nil _ _),zh (aj _ _)⟩
 obtain ⟨k,rfl,hk,HO,HB⟩:=hrel;have l6:=zh (zA eH.out HB.out);have hx:=eB.out.below HB.out;obtain ⟨k0,k1,k2,k3⟩:=hx.q;clear hx
 by_cases hlk:k<m
 ·
  as_aux_lemma =>
  have i1:(k:Int)+1<((m+1:Nat):Int):=by omega
  have i2:(k:Int)+1<(m:Int)+1:=by omega
  have i3:k+1<m+1:=by omega
  go_wp2_with fail;refine (fQ.out _ l6.out).mono ?_;rintro e w1 ⟨rfl,hb1⟩;have eP:=zh (HB.out.trans (hb1.mono HB.out.size));have jQ:=zh (show gF w1 W.heap.size _ _ from zG HO.out hb1);clear k0 k1 k2 k3 hb1 HO HB l6;have lX:=zh (zA eH.out eP.out);have k3:=(eB.out.below eP.out).c3;have hR:=HR.out.below lX.out;obtain ⟨b,off,rfl,hg⟩:=hR.at (show k<m+1 by omega);have sB:=zh hg;have jS:=zh (hR.m _ (G5.out k (by omega)));have pN:=zh (Gw.out _ (G5.out k (by omega)));have hon:=NB.out k;have hol:=HOL.out k;clear hR hg;generalize Qi:vw (ep L) key k=OK at *;generalize NC:vw (ep L) key (k+1)=Ud at *;have NF:=zh NC;clear NC;generalize pat L k=p at *;obtain ⟨⟨num,rev,md,sz,⟨f,LV,GA⟩⟩,s⟩:=p;dsimp only at *;have AU:=zh (qD s ⟨f,LV,GA⟩ key w1 jS.out pN.out);clear jS pN Qi
  obtain ⟨g0,g1,g2,g3,g4,g5,g6,g7,g8,g9,g10,g11,g12,g13⟩:=sB.out.q;dsimp only at g0 g1 g2 g3 g4 g5 g6 g7 g8 g9 g10 g11 g12 g13;have i4:(k:Int)<((m+1:Nat):Int):=by omega
  have i5:k<m+1:=by omega
  cases Bp:zg ⟨f,LV,GA⟩ key with
  |none =>
   rw[Bp] at AU hon;have Cp:=zh (show Ud=OK by rw[hon];exact bZ _);clear Bp hon;have IJ:=zh (show Calls Tryz.prog 124 #[yF s LV GA,.int .u64 key] w1 fun e w'=>e=.returned (.tuple #[.agg #[.int .u64 0,.int .u32 0,.int .i64 0,.int .i64 0],.bool false])∧Below w1.heap.size w1 w' from AU.out);clear AU;go_wp2_with fail;refine IJ.out.mono ?_;rintro e w2 ⟨rfl,hb2⟩;have hA:=(aj w2.heap.size w2).alloc (ag _) (.cells #[.int .u64 0,.int .u32 0,.int .i64 0,.int .i64 0] 49);have hb3:=hb2.trans (hA.mono hb2.size);have gC:=zh (zG jQ.out hb3);have eM:=zh (eP.out.trans (hb3.mono eP.out.size));clear hA hb3 hb2 g0 g1 g2 g3 g4 g5 g6 g7 g8 g9 g10 g11 g12 g13 k3;go_wp2_with fail;exact ⟨⟨k+1,by go_num,by omega,zh (by rw[NF.out,Cp.out];exact gC.out),eM⟩,by simp[intOf];omega⟩
  |some x =>
   rw[Bp] at AU hon;have Cp:=zh (show Ud=OK++[num] from hon);clear Bp hon;obtain ⟨xk,xc,xo,xz⟩:=x;have IJ:=zh (show Calls Tryz.prog 124 #[yF s LV GA,.int .u64 key] w1 fun e w'=>e=.returned (.tuple #[.agg #[.int .u64 xk,.int .u32 xc,.int .i64 xo,.int .i64 xz],.bool true])∧Below w1.heap.size w1 w' from AU.out);clear AU;have ho:=jQ.out;unfold gF at ho;obtain ⟨oa,oc,sP,_⟩:=zH ho;subst sP;clear ho;go_wp2_with fail;refine IJ.out.mono ?_;rintro e w2 ⟨rfl,hb2⟩;have hA:=(aj w2.heap.size w2).alloc (ag _) (.cells #[.int .u64 xk,.int .u32 xc,.int .i64 xo,.int .i64 xz] 49);have hb3:=hb2.trans (hA.mono hb2.size);have gC:=zh (zG jQ.out hb3);have eM:=zh (eP.out.trans (hb3.mono eP.out.size));have NG:=Below.keeps hb3 _ _ g0;have NH:=Below.keeps hb3 _ _ k3;clear hA hb3 hb2 g0 g1 g2 g3 g4 g5 g6 g7 g8 g9 g10 g11 g12 g13 k3;go_upto_region 7 with fail
   generalize w2.alloc (.cells #[.int .u64 xk,.int .u32 xc,.int .i64 xo,.int .i64 xz] 49)=w3 at *;have Ue:=zh (show Below w3.heap.size w3 (w3.alloc (.cells #[.int .i64 num] 3)) from (aj _ _).alloc (ag _) _);have CG:=zh (show (w3.alloc (.cells #[.int .i64 num] 3)).ownsRow W.heap.size 3 1 _ _ _ from zG gC.out Ue.out);have C_:W.heap.size≤w3.heap.size:=eM.out.size;have aib:OK.length≤8:=by omega
   go_wp2_with (at_builtin;go_must (refine zP (m:=1) rfl (.tmp 33) (.tmp 40) 233 rfl zKd W.heap.size rfl CG.out rfl (Rd.jD w3.heap.size w3 rfl 1 [.int .i64 num] 3 1 rfl (by decide)) (fun u hu=>by simp at hu;subst hu;rfl) (by unfold maxLen;omega) (by omega) (by simp;omega) ?_;intro v4 w4 fl gZ hv4;clear hv4));have gD:=zh (zL (eM.out.trans (Ue.out.mono C_)) CG.out (ak C_ Ue.out.size) gZ)
   have jM:=zh (show gF w4 W.heap.size v4 Ud from by
    unfold gF
    rw[Cp.out,aw,bD]
    exact fl)
   clear fl gZ NG NH;go_wp2_with fail;exact ⟨⟨k+1,by go_num,by omega,zh (by rw[NF.out];exact jM.out),gD⟩,by simp[intOf];omega⟩
 have i1:¬ (k:Int)+1<((m+1:Nat):Int):=by omega
 have i2:¬ (k:Int)+1<(m:Int)+1:=by omega
 have i3:¬ k+1<m+1:=by omega
 have F8:k=m:=by omega
 have gC:=zh (show gF wr W.heap.size _ (vw (ep L) key m) from F8▸HO.out);clear F8;have hle:=eH.out.size;go_wp2_with fail;go_ret;exact ⟨_,rfl,by rw[HF.out];exact World.ownsRow.mono gC.out hle,l6.out⟩
theorem zFF (i l:Int) (r:Bool) (a:Option Addr) (n c:Nat) (L:List GP) (w:World) (h:fD w (.slice a n c) L) (hs:∀ p∈L,∀ j,j<8→(p.1.m.st j).length≤10000) (key:Int) :
  Calls Tryz.prog 156 #[zO i l r a n c,.int .u64 key] w fun e w'=>∃ v',e=.returned v'∧gF w' w.heap.size v' (zS ⟨i,l,r,ep L⟩ key)∧Below w.heap.size w w':=by
 cases hv:zY ⟨i,l,r,ep L⟩
 ·
  exact zH3 i l r a n c L w h hs hv key
 exact zFj i l r a n c L w h hs hv key
end Go.Proofs.YtcgfilmmokmdjaaGreat
namespace Go.Proofs.YtcgfilmmokmdjaaGreat
open Go.RowKit
def g_ (W:World) (B:Nat) (T:TypeId) (sz:Nat) (v:Value) (n:Nat) (xs:List Value):Prop:=Rd W sz v n xs∧∀ g,v.ownBlock=some g→xs=[]∨g<B∨∃ c f,W.heap[g]?=some (.cells c T f)
structure gw (W W':World) (B b:Nat) (T:TypeId):Prop where
 lo:B≤b
 ty:∃ c f,W.heap[b]?=some (.cells c T f)
 blk:∀ k,k<W.heap.size→k≠b→W'.heap[k]?=W.heap[k]?
theorem gw.pts {W:World} {B b:Nat} {T:TypeId} (hB:B≤b) (ht:∃ c f,W.heap[b]?=some (.cells c T f)):∀ (vs:List (Nat×Value)),gw W (Go.Proofs.YtcgfilmmokmdjaaGreat.pts W b vs) B b T:=by
 have key:∀ (vs:List (Nat×Value)) (W:World) (k:Nat),k≠b→(Go.Proofs.YtcgfilmmokmdjaaGreat.pts W b vs).heap[k]?=W.heap[k]?:=by
  intro vs
  induction vs with
  |nil=>intro W k _;rfl
  |cons p r ih =>
   intro W k hk;obtain ⟨i,u⟩:=p
   show (Go.Proofs.YtcgfilmmokmdjaaGreat.pts (W.setCell ⟨b,i,none⟩ u) b r).heap[k]?=_
   rw[ih _ k hk];exact Below.heap_setCell W ⟨b,i,none⟩ u k hk
 exact fun vs=>⟨hB,ht,fun k _ hk=>key vs W k hk⟩
theorem gw.grown {W W':World} {B b:Nat} {T:TypeId} {row:Option Nat} (hB:B≤b) (ht:∃ c f,W.heap[b]?=some (.cells c T f)) (hg:W.grownBy W' row) (hr:row=none∨row=some b):gw W W' B b T:=
 ⟨hB,ht,fun k hk hne=>hg.block k hk (fun e=>by rcases hr with h|h<;>rw[h] at e<;>cases e;exact hne rfl)⟩
theorem g_.below {W W':World} {B:Nat} {T:TypeId} {sz:Nat} {v:Value} {n:Nat} {xs:List Value} (h:g_ W B T sz v n xs) (hb:Below W.heap.size W W'):g_ W' B T sz v n xs:=
 ⟨h.1.below hb,fun g hg=>(h.2 g hg).imp id fun h=>h.imp id fun ⟨c,f,h⟩=>⟨c,f,by rw[hb.block g (Array.getElem?_eq_some_iff.1 h).1];exact h⟩⟩
theorem g_.gK {W W':World} {B b:Nat} {T T':TypeId} {sz:Nat} {v:Value} {n:Nat} {xs:List Value} (h:g_ W B T sz v n xs) (ho:gw W W' B b T') (hne:T≠T'):g_ W' B T sz v n xs:=by
 obtain ⟨⟨h0,a,cap,e,h1,h2,h3,h4⟩,h5⟩:=h;subst e;have key:∀ g,a.map (·.block)=some g→xs≠[]→g≠b:=fun g hg hx e=>by
  subst e;have Jy:(Value.slice a n cap).ownBlock=some g:=by
   cases a with
   |none=>cases hg
   |some y=>simpa [Value.ownBlock] using hg
  rcases h5 g Jy with h|h|⟨c,f,h⟩
  ·
   exact hx h
  ·
   have:=ho.lo;omega
  obtain ⟨c',f',h'⟩:=ho.ty;rw[h] at h';injection h' with h';injection h' with _ h';exact hne h'
 refine ⟨⟨h0,a,cap,rfl,h1,h2,h3,fun hp=>?_⟩,fun g hg=>?_⟩
 ·
  obtain ⟨b',off,e,hc⟩:=h4 hp;refine ⟨b',off,e,fun j u hj=>?_⟩;have hc':=hc j u hj;have hlt:=cA W _ hc';have hn:=key b' (by rw[e];rfl) (fun e=>by rw[e] at hp;cases hp);exact (World.cell?_of_block (ho.blk b' hlt hn)).trans hc'
 by_cases hx:xs=[]
 ·
  exact .inl hx
 have hg2:a.map (·.block)=some g:=by
  cases a with
  |none=>cases hg
  |some y=>simpa [Value.ownBlock] using hg
 rcases h5 g hg with h|h|⟨c,f,h⟩
 ·
  exact .inl h
 ·
  exact .inr (.inl h)
 exact .inr (.inr ⟨c,f,by rw[ho.blk g (Array.getElem?_eq_some_iff.1 h).1 (key g hg2 hx)];exact h⟩)
theorem g_.old {W:World} {B:Nat} {T:TypeId} {sz:Nat} {v:Value} {n:Nat} {xs:List Value} (h:Rd W sz v n xs) (hB:W.heap.size≤B):g_ W B T sz v n xs:=by
 refine ⟨h,fun g hg=>?_⟩;obtain ⟨h0,a,cap,e,h1,h2,h3,h4⟩:=h
 by_cases hx:xs=[]
 ·
  exact .inl hx
 right;left
 have hp:0<xs.length:=by
  cases xs with
  |nil=>exact absurd rfl hx
  |cons x r=>simp
 obtain ⟨b',off,e',hc⟩:=h4 hp;subst e e';have Jy:b'=g:=by simpa [Value.ownBlock] using hg
 subst Jy;have:=cA W _ (hc 0 _ (aB hp));exact cM this hB
theorem g_.own {W:World} {B B':Nat} {T:TypeId} {sz:Nat} {v:Value} {n:Nat} {xs:List Value} (h:W.ownsRow B' T sz v n xs):g_ W B T sz v n xs:=
 ⟨zk h,fun g hg=>.inr (.inr (Lib.ownsRow_kind h g hg))⟩
theorem zKT {W W':World} {B B' b:Nat} {T T':TypeId} {sz n:Nat} {v:Value} {xs:List Value} (h:W.ownsRow B' T sz v n xs) (ho:gw W W' B b T') (hne:v.ownBlock≠some b):W'.ownsRow B' T sz v n xs:=by
 obtain ⟨h1,h2⟩:=h;refine ⟨h1,?_⟩;rcases h2 with h2|⟨g,cap,cur,e,hb,hg,h3⟩
 ·
  exact .inl h2
 refine .inr ⟨g,cap,cur,e,hb,?_,h3⟩;rw[ho.blk g (Array.getElem?_eq_some_iff.1 hg).1 (fun e2=>hne (by rw[e,e2];rfl))];exact hg
theorem yp {W W':World} {B B' b:Nat} {T T':TypeId} {sz n:Nat} {v:Value} {xs:List Value} (h:W.ownsRow B' T sz v n xs) (ho:gw W W' B b T') (hne:T≠T'):W'.ownsRow B' T sz v n xs:=
 zKT h ho fun e=>by
  obtain ⟨c,f,h1⟩:=Lib.ownsRow_kind h b e;obtain ⟨c',f',h2⟩:=ho.ty;rw[h1] at h2;injection h2 with h2;injection h2 with _ h2;exact hne h2
/-! ### jC -/
def iH (W:World) (B:Nat) (s:Sl) (f:Nat→List It):Prop:=∀ i,i<8→g_ W B 49 4 (s.v i) (f i).length (zU (f i))
theorem iH.rd {W:World} {B:Nat} {s:Sl} {f:Nat→List It} (h:iH W B s f):fG W s f:=fun i hi=>yh (h i hi).1
theorem iH.below {W W':World} {B:Nat} {s:Sl} {f:Nat→List It} (h:iH W B s f) (hb:Below W.heap.size W W'):iH W' B s f:=fun i hi=>(h i hi).below hb
structure gL (W:World) (B:Nat) (v:Value) (L:List GP):Prop where
 r:g_ W B 38 14 v L.length (L.flatMap iL)
 m:∀ p∈L,iH W B p.2 p.1.m.st
theorem gL.rd {W:World} {B:Nat} {v:Value} {L:List GP} (h:gL W B v L):fD W v L:=⟨⟨fun x _=>uA x,h.r.1⟩,fun p hp=>(h.m p hp).rd⟩
theorem gL.below {W W':World} {B:Nat} {v:Value} {L:List GP} (h:gL W B v L) (hb:Below W.heap.size W W'):gL W' B v L:=⟨h.r.below hb,fun p hp=>(h.m p hp).below hb⟩
theorem gL.gK {W W':World} {B b:Nat} {T':TypeId} {v:Value} {L:List GP} (h:gL W B v L) (ho:gw W W' B b T') (h1:38≠T') (h2:49≠T'):gL W' B v L:=⟨h.r.gK ho h1,fun p hp i hi=>(h.m p hp i hi).gK ho h2⟩
theorem gL.old {W:World} {B:Nat} {v:Value} {L:List GP} (h:fD W v L) (hB:W.heap.size≤B):gL W B v L:=⟨g_.old h.r.2 hB,fun p hp i hi=>g_.old (ui (h.m p hp i hi)) hB⟩
theorem gL.own {W:World} {B B' n:Nat} {v:Value} {L:List GP} (h:ia W B' v n L):gL W B v L:=⟨by have:=h.row;rw[h.len] at this;exact g_.own this,fun p hp i hi=>g_.own (h.m p hp i hi)⟩
/-! ### Requests -/
def rF (p:Rq×Value):List Value:=[.int .i64 p.1.tk,.int .i64 p.1.kind,.int .u64 (p.1.key:Int),.int .u32 (p.1.ck:Int),p.2]
theorem th (p:Rq×Value):(rF p).length=5:=rfl
abbrev CP (tk kind key ck:Int) (d:Value):Value:=.agg #[.int .i64 tk,.int .i64 kind,.int .u64 key,.int .u32 ck,d]
structure rG (w:World) (v:Value) (qs:List (Rq×Value)):Prop where
 row:iN 5 rF w v qs
 dat:∀ p∈qs,rB w p.2 p.1.data
theorem rG.below {w w':World} {v:Value} {qs:List (Rq×Value)} (h:rG w v qs) (hb:Below w.heap.size w w'):rG w' v qs:=⟨iN.below h.row hb,fun p hp=>iE.below (h.dat p hp) hb⟩
def jV (l:List (Rq×Value)) (i:Nat):Rq×Value:=l.getD i (La,.slice none 0 0)
theorem Qj {l:List (Rq×Value)} {i:Nat} (h:i<l.length):jV l i∈l:=by
 unfold jV;rw[ax,aB h];exact bI h
theorem rG.shape {w:World} {v:Value} {qs:List (Rq×Value)} (h:rG w v qs):∃ a cap,v=.slice a qs.length cap∧qs.length≤cap∧cap≤maxLen:=by
 obtain ⟨a,cap,h1,h2,h3,_⟩:=iN.shape h.row (by decide) (La,.slice none 0 0);exact ⟨a,cap,h1,h2,h3⟩
theorem rG.at {w:World} {a:Option Addr} {n cap:Nat} {qs:List (Rq×Value)} (h:rG w (.slice a n cap) qs) {j:Nat} (hj:j<n):∃ b off,a=some ⟨b,off,none⟩∧rB w (jV qs j).2 (jV qs j).1.data ∧
  w.cell? ⟨b,off+j*5,none⟩=some (.int .i64 (jV qs j).1.tk)∧w.cell? ⟨b,off+j*5+1,none⟩=some (.int .i64 (jV qs j).1.kind)∧w.cell? ⟨b,off+j*5+2,none⟩=some (.int .u64 ((jV qs j).1.key:Int)) ∧
  w.cell? ⟨b,off+j*5+3,none⟩=some (.int .u32 ((jV qs j).1.ck:Int))∧w.cell? ⟨b,off+j*5+4,none⟩=some (jV qs j).2:=by
 obtain ⟨a',cap',e,h2,h3,_,h5⟩:=iN.shape h.row (by decide) (La,.slice none 0 0);injection e with e1 e2 e3;subst e1 e2 e3;obtain ⟨b,off,e,hc⟩:=h5 (by omega);refine ⟨b,off,e,h.dat _ (Qj hj),?_,hc j hj 1 _ rfl,hc j hj 2 _ rfl,hc j hj 3 _ rfl,hc j hj 4 _ rfl⟩;have:=hc j hj 0 _ rfl;rwa [bB] at this
/-! ### GG of the call's own, their bytes read -/
def fR (W:World) (B:Nat) (v:Value) (d:List UInt8):Prop:=g_ W B 5 1 v d.length (d.map tB)
theorem fR.rd {W:World} {B:Nat} {v:Value} {d:List UInt8} (h:fR W B v d):rB W v d:=h.1
structure gm (W:World) (B:Nat) (v:Value) (es:List (Nd×Value)):Prop where
 row:W.ownsRow B 56 4 v es.length (xP es)
 dat:∀ p∈es,fR W B p.2 p.1.data
theorem gm.below {W W':World} {B:Nat} {v:Value} {es:List (Nd×Value)} (h:gm W B v es) (hb:Below W.heap.size W W'):gm W' B v es:=⟨zG h.row hb,fun p hp=>(h.dat p hp).below hb⟩
theorem gm.gK {W W':World} {B b:Nat} {T':TypeId} {v:Value} {es:List (Nd×Value)} (h:gm W B v es) (ho:gw W W' B b T') (h1:56≠T') (h2:5≠T'):gm W' B v es:=⟨yp h.row ho h1,fun p hp=>(h.dat p hp).gK ho h2⟩
/-! ### ET of the call's own -/
abbrev KP:=Int×Value×List Int
def gU (p:KP):List Value:=[.int .i64 p.1,p.2.1]
theorem xK (p:KP):(gU p).length=2:=rfl
def iM (l:List KP):List Kl:=l.map fun p=>(p.1,p.2.2)
def gY (l:List KP) (i:Nat):KP:=l.getD i (0,.slice none 0 0,[])
structure iu (W:World) (B:Nat) (v:Value) (ks:List KP):Prop where
 row:W.ownsRow B 89 2 v ks.length (ks.flatMap gU)
 keys:∀ p∈ks,W.ownsRow B 24 1 p.2.1 p.2.2.length (p.2.2.map Eh)
 apart:ks.Pairwise fun p q=>p.2.1.ownBlock=none∨p.2.1.ownBlock≠q.2.1.ownBlock
theorem iu.below {W W':World} {B:Nat} {v:Value} {ks:List KP} (h:iu W B v ks) (hb:Below W.heap.size W W'):iu W' B v ks:=⟨zG h.row hb,fun p hp=>zG (h.keys p hp) hb,h.apart⟩
theorem iu.gK {W W':World} {B b:Nat} {T':TypeId} {v:Value} {ks:List KP} (h:iu W B v ks) (ho:gw W W' B b T') (h1:89≠T') (h2:24≠T'):iu W' B v ks:=⟨yp h.row ho h1,fun p hp=>yp (h.keys p hp) ho h2,h.apart⟩
/-! ### The nE -/
abbrev tY (i l:Int) (r:Bool) (ga:Option Addr) (gn gc:Nat) (ey:Bool) (kv nv rv:Value) (gQ:Int):Array Value:=#[.int .i64 i,.int .i64 l,.bool r,.slice ga gn gc,.bool ey,.int .i64 0,kv,nv,rv,.int .i64 gQ]
structure mo (W:World) (B:Nat) (P:fB) (ga:Option Addr) (gn gc:Nat) (L:List GP) (kv:Value) (ks:List KP) (nv:Value) (es:List (Nd×Value)) (rv:Value):Prop where
 g:gL W B (.slice ga gn gc) L
 gg:ep L=P.t.dY
 k:iu W B kv ks
 kk:iM ks=P.eu
 n:gm W B nv es
 nn:es.map (·.1)=P.needs
 r:W.ownsRow B 39 1 rv P.res.length (P.res.map tV)
section
variable {W W':World} {B b:Nat} {P:fB} {ga:Option Addr} {gn gc:Nat} {L:List GP} {kv:Value} {ks:List KP} {nv:Value} {es:List (Nd×Value)} {rv:Value}
theorem mo.below (h:mo W B P ga gn gc L kv ks nv es rv) (hb:Below W.heap.size W W'):mo W' B P ga gn gc L kv ks nv es rv:=
 ⟨h.g.below hb,h.gg,h.k.below hb,h.kk,h.n.below hb,h.nn,zG h.r hb⟩
theorem mo.gK (h:mo W B P ga gn gc L kv ks nv es rv) (ho:gw W W' B b 145):mo W' B P ga gn gc L kv ks nv es rv:=
 ⟨h.g.gK ho (by decide) (by decide),h.gg,h.k.gK ho (by decide) (by decide),h.kk,h.n.gK ho (by decide) (by decide),h.nn,yp h.r ho (by decide)⟩
end
abbrev rH (W:World) (b:Nat) (i l:Int) (r:Bool) (ga:Option Addr) (gn gc:Nat) (ey:Bool) (kv nv rv:Value) (gQ:Int):Prop:=dZ W b (tY i l r ga gn gc ey kv nv rv gQ) 145
def sH (W:World) (B b:Nat) (P:fB):Prop:=∃ ga gn gc L kv ks nv es rv,B≤b∧rH W b P.t.id P.t.lim P.t.ro ga gn gc P.ey kv nv rv P.bytes∧mo W B P ga gn gc L kv ks nv es rv
theorem sH.below {W W':World} {B b:Nat} {P:fB} (h:sH W B b P) (hb:Below W.heap.size W W'):sH W' B b P:=by
 obtain ⟨ga,gn,gc,L,kv,ks,nv,es,rv,h1,h2,h3⟩:=h;exact ⟨ga,gn,gc,L,kv,ks,nv,es,rv,h1,h2.below hb,h3.below hb⟩
end Go.Proofs.YtcgfilmmokmdjaaGreat
namespace Go.Proofs.YtcgfilmmokmdjaaGreat
open Go.RowKit
theorem zG9 (i l:Int) (r:Bool) (a:Option Addr) (n c:Nat) (L:List GP) (w:World) (h:fD w (.slice a n c) L) (hs:∀ p∈L,∀ j,j<8→(p.1.m.st j).length≤10000) (m:Int) :
  Calls Tryz.prog 36 #[zO i l r a n c,.int .i64 m] w fun e w'=>e=.returned (.bool (yY ⟨i,l,r,ep L⟩ m))∧Below w.heap.size w w':=by
 have fQ:=zh (fun W (hb:Below w.heap.size w W)=>xD i l r a n c L W (h.below hb) hs);have eB:=zh (eW.new w i l r a n c 27);have eH:=zh (zM w i l r a n c 27);have hcs:yY ⟨i,l,r,ep L⟩ m=(zY ⟨i,l,r,ep L⟩&&(decide (0≤m)&&decide (m≤4096))&&decide ((ze ⟨i,l,r,ep L⟩).size+(eN m.toNat:Nat)≤l)):=rfl
 cases hv:zY ⟨i,l,r,ep L⟩
 ·
  rw[hv] at fQ hcs;have HF:=zh (show yY ⟨i,l,r,ep L⟩ m=false by rw[hcs];rfl);clear h hs hv hcs;generalize yY ⟨i,l,r,ep L⟩ m=F at *
  go_enter Tryz.func36,Tryz.ntmps36
  go_upto_region 1 with fail;obtain ⟨W,hW⟩:∃ W,w.alloc (.cells (zK i l r a n c) 27)=W:=⟨_,rfl⟩
  change Code.wp _ _ _ _ (w.alloc (.cells (zK i l r a n c) 27));rw[hW] at eB eH ⊢;clear hW;have nW:=eB.out.lt;obtain ⟨k0,k1,k2,k3⟩:=eB.out.q;go_wp2_with fail;refine (fQ.out _ eH.out).mono ?_;rintro e w1 ⟨rfl,hb1⟩;have eP:=zh (zA eH.out hb1);clear k0 k1 k2 k3 hb1;go_wp2_with fail;go_ret;exact ⟨by rw[HF.out];rfl,eP.out⟩
 by_cases h1:m<0
 ·
  rw[hv] at fQ hcs;have HF:=zh (show yY ⟨i,l,r,ep L⟩ m=false by rw[hcs,show decide (0≤m)=false by simp;omega];rfl);have e1:decide (m<0)=true:=by simp;omega
  clear h hs hv hcs;generalize yY ⟨i,l,r,ep L⟩ m=F at *
  go_enter Tryz.func36,Tryz.ntmps36
  go_upto_region 1 with fail;obtain ⟨W,hW⟩:∃ W,w.alloc (.cells (zK i l r a n c) 27)=W:=⟨_,rfl⟩
  change Code.wp _ _ _ _ (w.alloc (.cells (zK i l r a n c) 27));rw[hW] at eB eH ⊢;clear hW;have nW:=eB.out.lt;obtain ⟨k0,k1,k2,k3⟩:=eB.out.q;go_wp2_with fail;refine (fQ.out _ eH.out).mono ?_;rintro e w1 ⟨rfl,hb1⟩;have eP:=zh (zA eH.out hb1);clear k0 k1 k2 k3 hb1;go_wp2_with fail;go_ret;exact ⟨by rw[HF.out];rfl,eP.out⟩
 by_cases h2:4096<m
 ·
  rw[hv] at fQ hcs;have HF:=zh (show yY ⟨i,l,r,ep L⟩ m=false by rw[hcs,show decide (m≤4096)=false by simp;omega];simp);have e1:decide (m<0)=false:=by simp;omega
  have e2:decide ((4096:Int)<m)=true:=by simp;omega
  clear h hs hv hcs;generalize yY ⟨i,l,r,ep L⟩ m=F at *
  go_enter Tryz.func36,Tryz.ntmps36
  go_upto_region 1 with fail;obtain ⟨W,hW⟩:∃ W,w.alloc (.cells (zK i l r a n c) 27)=W:=⟨_,rfl⟩
  change Code.wp _ _ _ _ (w.alloc (.cells (zK i l r a n c) 27));rw[hW] at eB eH ⊢;clear hW;have nW:=eB.out.lt;obtain ⟨k0,k1,k2,k3⟩:=eB.out.q;go_wp2_with fail;refine (fQ.out _ eH.out).mono ?_;rintro e w1 ⟨rfl,hb1⟩;have eP:=zh (zA eH.out hb1);clear k0 k1 k2 k3 hb1;go_wp2_with fail;go_ret;exact ⟨by rw[HF.out];rfl,eP.out⟩
 obtain ⟨k,rfl⟩:∃ k:Nat,m=(k:Int):=⟨m.toNat,by omega⟩
 have fO:L.length=n:=by
  obtain ⟨_,_,e,_⟩:=h.shape;injection e with _ e _;exact e.symm
 have hV:=(zW _).1 hv;have hn:1≤n:=by have:=hV.len;simp only[zn,fO] at this;exact this.1
 obtain ⟨j,rfl⟩:∃ j,n=j+1:=⟨n-1,by omega⟩
 refine (zHC i l r a (j+1) c L w h hs hv k (by omega)).mono fun e w' ⟨he,hb⟩=>⟨?_,hb⟩
 rw[he,hcs,hv,vF fO,show decide ((0:Int)≤(k:Int))=true by simp,show decide ((k:Int)≤4096)=true by simp;omega];simp
end Go.Proofs.YtcgfilmmokmdjaaGreat
