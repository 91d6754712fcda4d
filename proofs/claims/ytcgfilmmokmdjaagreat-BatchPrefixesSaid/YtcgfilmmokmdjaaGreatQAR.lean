/- A part of the walk. -/
import Derived.Test.YtcgfilmmokmdjaaGreatQAQ
import Derived.Test.YtcgfilmmokmdjaaGreatSkb
import Derived.Test.YtcgfilmmokmdjaaGreatQAN
import Derived.Test.YtcgfilmmokmdjaaGreatQAO
import Derived.Test.YtcgfilmmokmdjaaGreatQAL
set_option linter.all false
set_option maxRecDepth 100000
set_option maxHeartbeats 32000000
namespace Go.Proofs.YtcgfilmmokmdjaaGreat
open Go.RowKit
def I2 (w0 : World) (p : eL × Int) (e : Ending) (w' : World) : Prop:=(∃ a n c L,e = .returned (.tuple #[ze p.1.id p.1.lim p.1.ro a n c,.int .i64 p.2]) ∧ gI w' w0.heap.size (.slice a n c) n L ∧ ea L = p.1.dW) ∧ Below w0.heap.size w0 w'
theorem gI.nil (w : World) (B : Nat) : gI w B (.slice Option.none 0 0) 0 []:=⟨aU _ _ _ _,rfl,fun p hp => by cases hp⟩
theorem I2.no {w0 w : World} {c : Int} (h : Below w0.heap.size w0 w) : I2 w0 (wJ,c) (.returned (.tuple #[ze 0 0 false Option.none 0 0,.int .i64 c])) w:=⟨⟨Option.none,0,0,[],rfl,gI.nil _ _,rfl⟩,h⟩
theorem zCw {s : eL} (hV : eA s) {k : Nat} (hk : k < s.dW.length) {y : Gn} (h : (eB s.dW k).num = y.num) : uf s.dW y = s.dW.set k y:=by
 have D9 : ∀ i j,i < j → j < s.dW.length → (eB s.dW i).num < (eB s.dW j).num:=by
  intro i j hij
  induction j with
  | zero => omega
  | succ j ih =>
   intro hj;have h1:=(hV.g (j + 1) hj).2.1 (by omega);rw [show j + 1 - 1 = j by omega] at h1
   by_cases e : i = j
   ·
    subst e; exact h1
   have:=ih (by omega) (by omega); omega
 refine List.ext_getElem? fun i => ?_
 unfold uf;rw [b9,dK]
 by_cases hi : i < s.dW.length
 ·
  have eg : eB s.dW i = s.dW[i]:=by unfold eB; rw [aw,aB hi]; rfl
  rw [aB hi,← eg]
  by_cases e : k = i
  ·
   subst e;simp [h,hi]
  rw [ah e];have hne : (eB s.dW i).num ≠ y.num:=by
   rw [← h];rcases Nat.lt_or_gt_of_ne e with h1 | h1
   ·
    have:=D9 k i h1 hi; omega
   have:=D9 i k h1 hk; omega
  simp [hne]
 rw [List.getElem?_eq_none (by omega)]
 by_cases e : k = i
 ·
  omega
 rw [ah e]; rfl
theorem zL9 (g : Gn) (s : Sl) (w : World) (h : fq w s g.m.st) (hs : ∀ i,i < 8 → (g.m.st i).length ≤ 10000) :
  Calls Tryz.prog 61 #[zV g.num g.rev g.mode g.size s g.m.live g.m.dZ] w (Kv w (xl g 1)):=by
 have HT:=zh (fun W (hb : Below w.heap.size w W) => zKS g s 1 W (h.below hb) hs);clear hs;generalize xl g 1 = TG at *;obtain ⟨n,r,md,z,⟨f,L,G⟩⟩:=g;dsimp only at *;obtain ⟨W,hW,fF,hbr,fP⟩:=vE w n r md z s L G 38;have HX:=zh fF;have HR:=zh hbr;have HB:=zh fP;clear fF hbr fP h
 go_enter Tryz.func61,Tryz.ntmps61
 go_upto_region 1 with fail;change Code.wp _ _ _ _ ((w.alloc (.cells (zQ n r md z s L G) 38)).alloc (.cells (zQ 0 0 0 0 Sl.nil 0 0) 38));rw [hW];clear hW;obtain ⟨x0,x1,x2,x3,x4,x5,x6,x7,x8,x9,fS,fT,fQ,fR⟩:=HX.out.q;go_wp2_with fail;refine (HT.out _ HB.out).mono ?_;rintro e w1 ⟨⟨t,rfl,hr⟩,hb⟩;have KB:=zh (hr.mono (show w.heap.size + 2 ≤ W.heap.size by have:=HR.out.lt; omega));have eY:=zh (HR.out.below hb);have eW:=zh (zA HB.out hb);have hlr:=HR.out.lt;clear x0 x1 x2 x3 x4 x5 x6 x7 x8 x9 fS fT fQ fR;clear hr HX HT HR HB;obtain ⟨er,⟨n',r',md',z',⟨f',L',G'⟩⟩⟩:=TG;dsimp only at *;obtain ⟨r0,r1,r2,r3,r4,r5,r6,r7,r8,r9,jU,lM,mI,Ba⟩:=eY.out.q;have rf:=eY.out.f;go_wp2_with fail;change bodyPost _ _ _ _ _ (pts w1 (w.heap.size + 1) (zJ n' r' md' z' t L' G'));have hby:=eY.out.all n' r' md' z' t L' G'
 have ey:=zh (zD (B:=w.heap.size) (b:=(w.heap.size + 1)) (by omega) (zJ n' r' md' z' t L' G') eW.out);have gJ:=(KB.out.pts (show w.heap.size + 1 < w.heap.size + 2 by omega) (zJ n' r' md' z' t L' G')).mono (show w.heap.size ≤ w.heap.size + 2 by omega);generalize pts w1 (w.heap.size + 1) (zJ n' r' md' z' t L' G') = V at *;exact au (v:=.tuple #[zV n' r' md' z' t L' G',.int .i64 er]) (by simp [results,Tryz.results61,go_sem,hby.q]) rfl ⟨⟨_,rfl,gJ⟩,ey.out⟩
theorem zLD (i l : Int) (r : Bool) (a : Option Addr) (n c : Nat) (L : List GP) (w : World) (h : fH w (.slice a n c) L) (hs : ∀ p ∈ L,∀ j,j < 8 → (p.1.m.st j).length ≤ 10000) (y : GP) (hy : fq w y.2 y.1.m.st) (Cr : ∀ j,j < 8 → (y.1.m.st j).length ≤ 10000) (hv : zd ⟨i,l,r,ea L⟩ = false) :
  Calls Tryz.prog 14 #[ze i l r a n c,zV y.1.num y.1.rev y.1.mode y.1.size y.2 y.1.m.live y.1.m.dZ] w (I2 w (yM ⟨i,l,r,ea L⟩ y.1)):=by
 have gH:=zh (fun W (hb : Below w.heap.size w W) => yU i l r a n c L W (h.below hb) hs);have HC:=zh (show yM ⟨i,l,r,ea L⟩ y.1 = (wJ,1) by unfold yM; rw [hv]; rfl);rw [hv] at gH;clear h hs hv hy Cr
 go_enter Tryz.func14,Tryz.ntmps14
 go_upto_region 1 with fail;change Code.wp _ _ _ _ (((w.alloc (.cells (zN i l r a n c) 27)).alloc (.cells (zQ y.1.num y.1.rev y.1.mode y.1.size y.2 y.1.m.live y.1.m.dZ) 38)).alloc (.cells (zN 0 0 false none 0 0) 27));obtain ⟨W,hW,fF,hbg,hbr,fP⟩:=vk w i l r a n c y 27 38;rw [hW];have HX:=zh fF;have HG:=zh hbg;have HR:=zh hbr;have HB:=zh fP;clear hW fF hbg hbr fP;obtain ⟨k0,k1,k2,k3⟩:=HX.out.q;go_wp2_with fail;refine (gH.out _ HB.out).mono ?_;rintro e w1 ⟨rfl,hb⟩;replace HX:=zh (HX.out.below hb);replace HR:=zh (HR.out.below hb);replace HB:=zh (zA HB.out hb);clear hb;clear k0 k1 k2 k3;obtain ⟨z0,z1,z2,z3⟩:=HR.out.q;have zf:=HR.out.f;go_wp2_with fail;change bodyPost _ _ _ _ _ (pts w1 (w.heap.size + 2) (zP 0 0 false none 0 0));have hby:=HR.out.all 0 0 false none 0 0
 have ey:=zh (zD (B:=w.heap.size) (b:=(w.heap.size + 2)) (by omega) (zP 0 0 false none 0 0) HB.out);generalize pts w1 (w.heap.size + 2) (zP 0 0 false none 0 0) = V at *;exact au (v:=.tuple #[ze 0 0 false none 0 0,.int .i64 1]) (by simp [results,Tryz.results14,go_sem,hby.c0,hby.c1,hby.c2,hby.c3]) rfl (by rw [HC.out]; exact I2.no ey.out)
theorem zIr (i l : Int) (r : Bool) (a : Option Addr) (n c : Nat) (L : List GP) (w : World) (h : fH w (.slice a n c) L) (hs : ∀ p ∈ L,∀ j,j < 8 → (p.1.m.st j).length ≤ 10000) (y : GP) (hy : fq w y.2 y.1.m.st) (Cr : ∀ j,j < 8 → (y.1.m.st j).length ≤ 10000) (hv : zd ⟨i,l,r,ea L⟩ = true) :
  Calls Tryz.prog 14 #[ze i l r a n c,zV y.1.num y.1.rev y.1.mode y.1.size y.2 y.1.m.live y.1.m.dZ] w (I2 w (yM ⟨i,l,r,ea L⟩ y.1)):=by
 have gH:=zh (fun W (hb : Below w.heap.size w W) => yU i l r a n c L W (h.below hb) hs);have hV:=(zZ _).1 hv;have gy : L.length = n:=by
  obtain ⟨_,_,e,_⟩:=h.shape;injection e with _ e _; exact e.symm
 have hl : (ea L).length = n:=by rw [yB,gy]
 have hn : 1 ≤ n ∧ n ≤ 8:=by have:=hV.len; simp only [hl] at this; exact this
 have HC:=zh (show yM ⟨i,l,r,ea L⟩ y.1 = (if uv L y.1.num n = true then (if zd ⟨i,l,r,uf (ea L) y.1⟩ = true then (⟨i,l,r,uf (ea L) y.1⟩,0) else (wJ,1)) else (wJ,6)) by
  unfold yM; rw [ag hv,Yi L y.1.num n gy.symm])
 have JO:=zh (fun k (hk : k < n) (e : (pat L k).1.num = y.1.num) => show uf (ea L) y.1 = (ea L).set k y.1 from zCw hV (k:=k) (by rw [hl]; exact hk) (by rw [xJ]; exact e))
 have Od:=zh (show ∀ k,k < n → (pat L k).1.num = y.1.num → uv L y.1.num n = true from fun k hk e => by
  unfold uv
  rw [List.any_eq_true]
  refine ⟨pat L k,?_,by simp [e]⟩
  rw [aH (by omega)]
  exact xN (by omega))
 have Ig:=zh (show (∀ j,j < L.length → (pat L j).1.num ≠ y.1.num) → uv L y.1.num n = false from fun hh => by
  unfold uv
  rw [Bool.eq_false_iff]
  intro ht
  rw [List.any_eq_true] at ht
  obtain ⟨x,hx,e⟩:=ht
  obtain ⟨j,hj,rfl⟩:=b7 (aY hx)
  have h1:=hh j hj
  unfold pat at h1
  rw [aw,aB hj] at h1
  exact h1 (aX e))
 rw [hv] at gH;have Bd:=zh h;have Ls:=zh hs;have mJ:=zh hy;have Er:=zh Cr;have iL:=zh gy;clear h hs hv hV gy hl hy Cr;obtain ⟨⟨num,rev,md,sz,⟨fs,LV,GA⟩⟩,s⟩:=y;dsimp only at *
 go_enter Tryz.func14,Tryz.ntmps14
 go_upto_region 1 with fail;change Code.wp _ _ _ _ (((w.alloc (.cells (zN i l r a n c) 27)).alloc (.cells (zQ num rev md sz s LV GA) 38)).alloc (.cells (zN 0 0 false none 0 0) 27));obtain ⟨W,hW,fF,hbg,hbr,fP⟩:=vk w i l r a n c (⟨num,rev,md,sz,⟨fs,LV,GA⟩⟩,s) 27 38;rw [hW];have HX:=zh fF;have HG:=zh hbg;have HR:=zh hbr;have HB:=zh fP;clear hW fF hbg hbr fP;have hB0 : w.heap.size + 3 ≤ W.heap.size:=by have:=HR.out.lt; omega
 dsimp only at HG;obtain ⟨k0,k1,k2,k3⟩:=HX.out.q;go_wp2_with fail;refine (gH.out _ HB.out).mono ?_;rintro e w1 ⟨rfl,hb⟩;replace HX:=zh (HX.out.below hb);replace HG:=zh (HG.out.below hb);replace HR:=zh (HR.out.below hb);replace HB:=zh (zA HB.out hb);have hB1:=ak hB0 hb.size;clear hb gH;clear k0 k1 k2 k3;have MB:=zh (zCG a n c L (w.heap.size + 1) num rev md sz s LV GA w1 (Bd.out.below HB.out) (by omega) HG.out);have k3:=HX.out.c3;go_wp2_with fail;refine MB.out.mono ?_;rintro e w2 ⟨⟨z,rfl,hF⟩,hb⟩;replace HX:=zh (HX.out.below hb);replace HG:=zh (HG.out.below hb);replace HR:=zh (HR.out.below hb);replace HB:=zh (zA HB.out hb);have hB2:=ak hB1 hb.size;clear hb k3 MB;rcases hF with ⟨k,hk,rfl,hkn,_⟩ | ⟨rfl,hF⟩
 ·
  have hk' : k < n:=by rw [← iL.out]; exact hk
  have B9:=zh (HC.out.trans (ag (Od.out k hk' hkn)));have RV:=JO.out k hk' hkn;rw [RV] at B9;clear HC Od Ig JO RV hk hkn;have i1 : ¬ (k : Int) < 0:=by omega
  obtain ⟨k0,k1,k2,k3⟩:=HX.out.q;go_wp2_with fail;refine (zBb i l r a n c L w2 (Bd.out.below HB.out) Ls.out (by omega)).mono ?_;rintro e w3 hq;obtain ⟨⟨a1,c1,M,rfl,ho,hg⟩,hb⟩:=hq;have E4:=zh (ho.lower hB2);have jm:=zh hg;clear k0 k1 k2 k3 ho hg;replace HX:=zh (HX.out.below hb);replace HG:=zh (HG.out.below hb);replace HR:=zh (HR.out.below hb);replace HB:=zh (zA HB.out hb);have Mt:=ak hB2 hb.size;clear hb;obtain ⟨k0,k1,k2,k3⟩:=HX.out.q;have kf:=HX.out.f;go_upto_region 7 with fail;clear k0 k1 k2 k3 kf;obtain ⟨g,rfl,hgB,Co⟩:=ui E4.out.row (by omega);have iM:=zh (HX.out.all i l r (some ⟨g,0,none⟩) n c1);have Fw:=zh (HG.out.eD (c:=w.heap.size) (by omega) (zP i l r (some ⟨g,0,none⟩) n c1));have lB:=zh (HR.out.eD (d:=w.heap.size) (by omega) (zP i l r (some ⟨g,0,none⟩) n c1))
  have fZ:=zh (zD (B:=w.heap.size) (b:=w.heap.size) (ai _) (zP i l r (some ⟨g,0,none⟩) n c1) HB.out);have jx:=zh (E4.out.pts (b:=w.heap.size) (by omega) (zP i l r (some ⟨g,0,none⟩) n c1));have C1 : w.heap.size + 3 ≤ (pts w3 w.heap.size (zP i l r (some ⟨g,0,none⟩) n c1)).heap.size:=by rw [uI]; exact Mt
  clear HX HG HR HB E4;change Code.wp _ _ _ _ (pts w3 w.heap.size (zP i l r (some ⟨g,0,none⟩) n c1));generalize pts w3 w.heap.size (zP i l r (some ⟨g,0,none⟩) n c1) = w4 at *;have FH:=zh (fun W (hb : Below w4.heap.size w4 W) => uz ⟨num,rev,md,sz,⟨fs,LV,GA⟩⟩ s W (mJ.out.below (zA fZ.out hb)) Er.out);dsimp only at FH;refine yx [eX (.pointer (some ⟨w.heap.size,3,none⟩)),eX (.slice (some ⟨g,0,none⟩) n c1),eX (.int .i64 (k : Int)),eX (zV num rev md sz s LV GA),Yx (w.heap.size + 3) ⟨num,rev,md,sz,⟨fs,LV,GA⟩⟩] [] 31 (by kernel_rfl) (by kernel_rfl) (by rfl) (by kernel_rfl) (fun f => by simp [fD,zW,Act.put]; exact rfl) ?_ ?_
  ·
   refine ⟨?_,?_,?_,?_,?_,trivial⟩
   ·
    intro f w1 hb hd;clear hd;dsimp only;go_wp2_with fail;exact pS rfl (by simp)
   ·
    intro f w1 hb hd;have d0 : f 0 = (.pointer (some ⟨w.heap.size,3,none⟩)):=hd 0 (by kernel_rfl);clear hd;dsimp only;rw [d0];have q3:=(iM.out.below hb).c3;go_wp2_with fail;exact pS rfl (by simp)
   ·
    intro f w1 hb hd;clear hd;dsimp only;go_wp2_with fail;exact pS rfl (by simp)
   ·
    intro f w1 hb hd;clear hd;dsimp only;have zo:=Fw.out.below hb;obtain ⟨q0,q1,q2,q3,q4,q5,q6,q7,q8,q9,FC,FD,FE,FF⟩:=zo.q;clear zo;go_wp2_with fail;exact pS rfl (by simp)
   intro f w1 hb hd;have d3 : f 3 = (zV num rev md sz s LV GA):=hd 3 (by kernel_rfl);clear hd;dsimp only;rw [d3];go_wp2_with fail;refine (FH.out w1 hb).mono ?_;rintro e w9 ⟨⟨s9,rfl,B5⟩,gL⟩;have ic:=zh (B5.mono (ak C1 hb.size));clear B5;go_wp2_with fail;exact ⟨rfl,gL,fun t ht => by injection ht with ht; subst ht; exact ⟨⟨s9,rfl,ic.out⟩,fun h => by simp at h⟩⟩
  intro f w5 hb hd iD;clear iD;have d1 : f 1 = .slice (some ⟨g,0,none⟩) n c1:=hd 1 (show 1 < 5 by decide);have d2 : f 2 = .int .i64 (k : Int):=hd 2 (show 2 < 5 by decide);obtain ⟨s4,d4,I1⟩:=show ∃ s,f 4 = zV num rev md sz s LV GA ∧ eZ w5 (w.heap.size + 3) s fs from hd 4 (show 4 < 5 by decide);clear hd
  try dsimp only
  rw [d1,d2,d4];clear d1 d2 d4;generalize f 0 = z0;generalize f 3 = z3;clear f;have E5:=jx.out.keep hb;have RS:=zh ((Ul E5.row E5.len hk').there (wW E5.row));have iV:=zh (E5.set k hk' ((⟨num,rev,md,sz,⟨fs,LV,GA⟩⟩ : Gn),s4) I1);dsimp only at iV;have fw:=zh ((iM.out.below hb).eD (d:=g) (by omega) (Dv (k * 14) num rev md sz s4 LV GA));have iR:=zh ((lB.out.below hb).eD (d:=g) (by omega) (Dv (k * 14) num rev md sz s4 LV GA));have gw:=zh (zD (B:=w.heap.size) (b:=g) (by omega) (Dv (k * 14) num rev md sz s4 LV GA) (zA fZ.out hb));have JB:=zh (show ea (M.set k ((⟨num,rev,md,sz,⟨fs,LV,GA⟩⟩ : Gn),s4)) = (ea L).set k (⟨num,rev,md,sz,⟨fs,LV,GA⟩⟩ : Gn) from by rw [Yw,jm.out])
  have RX:=zh (show ∀ p ∈ M.set k ((⟨num,rev,md,sz,⟨fs,LV,GA⟩⟩ : Gn),s4),∀ j,j < 8 → (p.1.m.st j).length ≤ 10000 from fun p hp j hj => by
   rcases dV hp with hp | rfl
   ·
    have h1 : p.1 ∈ ea L:=jm.out ▸ cU hp
    obtain ⟨q,hq,e⟩:=List.mem_map.1 h1
    rw [← e]; exact Ls.out q hq j hj
   exact Er.out j hj)
  clear E5 I1 hb FH iM Fw lB fZ jx jm;change wpList _ _ _ (_ :: _ :: []) _ _;go_wp2_with (first | ((with_reducible refine wpList_store_mid ?_ 38 (.tmp 25) (.tmp 24) ?_ g (k * 14) (zQ num rev md sz s4 LV GA) ?_ ?_ ?_ ?_ ?_ ?_); rfl; rfl; rfl; rfl; exact RS.out; exact Yo; exact Ur _ _ _ _ _ _ _; rw [k7]; generalize (pts w5 g (Dv (k * 14) num rev md sz s4 LV GA)) = w6 at *; have k0:=fw.out.c0; have k1:=fw.out.c1; have k2:=fw.out.c2; have k3:=fw.out.c3));refine (yU i l r (some ⟨g,0,none⟩) n c1 _ w6 iV.out.rd RX.out).mono ?_;rintro e w7 ⟨rfl,hb⟩;rw [JB.out];replace fw:=zh (fw.out.below hb);replace iR:=zh (iR.out.below hb);replace gw:=zh (zA gw.out hb);replace iV:=zh (iV.out.keep hb);clear hb k0 k1 k2 k3 RX;generalize KE : zd ⟨i,l,r,(ea L).set k (⟨num,rev,md,sz,⟨fs,LV,GA⟩⟩ : Gn)⟩ = bv at *
  cases bv
  ·
   have HC:=zh (B9.out.trans (ah (by decide)));clear B9 KE;obtain ⟨z0,z1,z2,z3⟩:=iR.out.q;have zf:=iR.out.f;go_wp2_with fail;change bodyPost _ _ _ _ _ (pts w7 (w.heap.size + 2) (zP 0 0 false none 0 0));have hby:=iR.out.all 0 0 false none 0 0;have ey:=zh (zD (B:=w.heap.size) (b:=(w.heap.size + 2)) (by omega) (zP 0 0 false none 0 0) gw.out);generalize pts w7 (w.heap.size + 2) (zP 0 0 false none 0 0) = V at *;exact au (v:=.tuple #[ze 0 0 false none 0 0,.int .i64 1]) (by simp [results,Tryz.results14,go_sem,hby.c0,hby.c1,hby.c2,hby.c3]) rfl (by rw [HC.out]; exact I2.no ey.out)
  have HC:=zh (B9.out.trans (ag rfl));clear B9 KE;obtain ⟨k0,k1,k2,k3⟩:=fw.out.q;obtain ⟨z0,z1,z2,z3⟩:=iR.out.q;have zf:=iR.out.f;go_wp2_with fail;change bodyPost _ _ _ _ _ (pts w7 (w.heap.size + 2) (zP i l r (some ⟨g,0,none⟩) n c1));have EY:=zh (iV.out.pts (b:=w.heap.size + 2) (by omega) (zP i l r (some ⟨g,0,none⟩) n c1));have hby:=iR.out.all i l r (some ⟨g,0,none⟩) n c1;have ey:=zh (zD (B:=w.heap.size) (b:=(w.heap.size + 2)) (by omega) (zP i l r (some ⟨g,0,none⟩) n c1) gw.out);generalize pts w7 (w.heap.size + 2) (zP i l r (some ⟨g,0,none⟩) n c1) = V at *;exact au (v:=.tuple #[ze i l r (some ⟨g,0,none⟩) n c1,.int .i64 0]) (by simp [results,Tryz.results14,go_sem,hby.c0,hby.c1,hby.c2,hby.c3]) rfl (by rw [HC.out]; exact ⟨⟨_,n,c1,_,rfl,EY.out.lower (by omega),JB.out⟩,ey.out⟩)
 have B9:=zh (HC.out.trans (ah (by rw [Ig.out hF]; decide)));clear HC Od Ig JO hF;obtain ⟨z0,z1,z2,z3⟩:=HR.out.q;have zf:=HR.out.f;go_wp2_with fail;change bodyPost _ _ _ _ _ (pts w2 (w.heap.size + 2) (zP 0 0 false none 0 0));have hby:=HR.out.all 0 0 false none 0 0;have ey:=zh (zD (B:=w.heap.size) (b:=(w.heap.size + 2)) (by omega) (zP 0 0 false none 0 0) HB.out);generalize pts w2 (w.heap.size + 2) (zP 0 0 false none 0 0) = V at *;exact au (v:=.tuple #[ze 0 0 false none 0 0,.int .i64 6]) (by simp [results,Tryz.results14,go_sem,hby.c0,hby.c1,hby.c2,hby.c3]) rfl (by rw [B9.out]; exact I2.no ey.out)
theorem zJp (i l : Int) (r : Bool) (a : Option Addr) (n c : Nat) (L : List GP) (w : World) (h : fH w (.slice a n c) L) (hs : ∀ p ∈ L,∀ j,j < 8 → (p.1.m.st j).length ≤ 10000) (y : GP) (hy : fq w y.2 y.1.m.st) (Cr : ∀ j,j < 8 → (y.1.m.st j).length ≤ 10000) : Calls Tryz.prog 14 #[ze i l r a n c,zV y.1.num y.1.rev y.1.mode y.1.size y.2 y.1.m.live y.1.m.dZ] w (I2 w (yM ⟨i,l,r,ea L⟩ y.1)):=by
 cases hv : zd ⟨i,l,r,ea L⟩
 ·
  exact zLD i l r a n c L w h hs y hy Cr hv
 exact zIr i l r a n c L w h hs y hy Cr hv
def I3 (z : Int) : Value:=.int .i64 z
def ll (w : World) (B : Nat) (v : Value) (l : List Int) : Prop:=w.ownsRow B 3 1 v l.length (l.map I3)
theorem zEs (l : List Gn) (key : Int) : ∀ n,(qx l key n).length ≤ n
 | 0 => aq _
 | n + 1 => by
  have:=zEs l key n;unfold qx;rw [ax]
  cases zR (eB l n).m key <;> simp <;> omega
end Go.Proofs.YtcgfilmmokmdjaaGreat
namespace Go.Proofs.YtcgfilmmokmdjaaGreat
open Go.RowKit
def iA (W : World) (B : Nat) (T : TypeId) (sz : Nat) (v : Value) (n : Nat) (xs : List Value) : Prop:=Rd W sz v n xs ∧ ∀ g,v.ownBlock = some g → xs = [] ∨ g < B ∨ ∃ c f,W.heap[g]? = some (.cells c T f)
structure iH (W W' : World) (B b : Nat) (T : TypeId) : Prop where
 lo : B ≤ b
 ty : ∃ c f,W.heap[b]? = some (.cells c T f)
 blk : ∀ k,k < W.heap.size → k ≠ b → W'.heap[k]? = W.heap[k]?
theorem iH.pts {W : World} {B b : Nat} {T : TypeId} (hB : B ≤ b) (ht : ∃ c f,W.heap[b]? = some (.cells c T f)) : ∀ (vs : List (Nat × Value)),iH W (Go.Proofs.YtcgfilmmokmdjaaGreat.pts W b vs) B b T:=by
 have key : ∀ (vs : List (Nat × Value)) (W : World) (k : Nat),k ≠ b → (Go.Proofs.YtcgfilmmokmdjaaGreat.pts W b vs).heap[k]? = W.heap[k]?:=by
  intro vs
  induction vs with
  | nil => intro W k _; rfl
  | cons p r ih =>
   intro W k hk;obtain ⟨i,u⟩:=p
   show (Go.Proofs.YtcgfilmmokmdjaaGreat.pts (W.setCell ⟨b,i,none⟩ u) b r).heap[k]? = _
   rw [ih _ k hk];exact Below.heap_setCell W ⟨b,i,none⟩ u k hk
 exact fun vs => ⟨hB,ht,fun k _ hk => key vs W k hk⟩
theorem iH.grown {W W' : World} {B b : Nat} {T : TypeId} {row : Option Nat} (hB : B ≤ b) (ht : ∃ c f,W.heap[b]? = some (.cells c T f)) (hg : W.grownBy W' row) (hr : row = none ∨ row = some b) : iH W W' B b T:=
 ⟨hB,ht,fun k hk hne => hg.block k hk (fun e => by rcases hr with h | h <;> rw [h] at e <;> cases e; exact hne rfl)⟩
theorem iA.below {W W' : World} {B : Nat} {T : TypeId} {sz : Nat} {v : Value} {n : Nat} {xs : List Value} (h : iA W B T sz v n xs) (hb : Below W.heap.size W W') : iA W' B T sz v n xs:=
 ⟨h.1.below hb,fun g hg => (h.2 g hg).imp id fun h => h.imp id fun ⟨c,f,h⟩ => ⟨c,f,by rw [hb.block g (Array.getElem?_eq_some_iff.1 h).1]; exact h⟩⟩
theorem iA.jB {W W' : World} {B b : Nat} {T T' : TypeId} {sz : Nat} {v : Value} {n : Nat} {xs : List Value} (h : iA W B T sz v n xs) (ho : iH W W' B b T') (hne : T ≠ T') : iA W' B T sz v n xs:=by
 obtain ⟨⟨h0,a,cap,e,h1,h2,h3,h4⟩,h5⟩:=h;subst e;have key : ∀ g,a.map (·.block) = some g → xs ≠ [] → g ≠ b:=fun g hg hx e => by
  subst e;have NF : (Value.slice a n cap).ownBlock = some g:=by
   cases a with
   | none => cases hg
   | some y => simpa [Value.ownBlock] using hg
  rcases h5 g NF with h | h | ⟨c,f,h⟩
  ·
   exact hx h
  ·
   have:=ho.lo; omega
  obtain ⟨c',f',h'⟩:=ho.ty;rw [h] at h';injection h' with h';injection h' with _ h';exact hne h'
 refine ⟨⟨h0,a,cap,rfl,h1,h2,h3,fun hp => ?_⟩,fun g hg => ?_⟩
 ·
  obtain ⟨b',off,e,hc⟩:=h4 hp;refine ⟨b',off,e,fun j u hj => ?_⟩;have hc':=hc j u hj;have hlt:=cZ W _ hc';have hn:=key b' (by rw [e]; rfl) (fun e => by rw [e] at hp; cases hp);exact (World.cell?_of_block (ho.blk b' hlt hn)).trans hc'
 by_cases hx : xs = []
 ·
  exact .inl hx
 have hg2 : a.map (·.block) = some g:=by
  cases a with
  | none => cases hg
  | some y => simpa [Value.ownBlock] using hg
 rcases h5 g hg with h | h | ⟨c,f,h⟩
 ·
  exact .inl h
 ·
  exact .inr (.inl h)
 exact .inr (.inr ⟨c,f,by rw [ho.blk g (Array.getElem?_eq_some_iff.1 h).1 (key g hg2 hx)]; exact h⟩)
theorem iA.old {W : World} {B : Nat} {T : TypeId} {sz : Nat} {v : Value} {n : Nat} {xs : List Value} (h : Rd W sz v n xs) (hB : W.heap.size ≤ B) : iA W B T sz v n xs:=by
 refine ⟨h,fun g hg => ?_⟩;obtain ⟨h0,a,cap,e,h1,h2,h3,h4⟩:=h
 by_cases hx : xs = []
 ·
  exact .inl hx
 right; left
 have hp : 0 < xs.length:=by
  cases xs with
  | nil => exact absurd rfl hx
  | cons x r => simp
 obtain ⟨b',off,e',hc⟩:=h4 hp;subst e e';have NF : b' = g:=by simpa [Value.ownBlock] using hg
 subst NF;have:=cZ W _ (hc 0 _ (aB hp));exact dt this hB
theorem iA.own {W : World} {B B' : Nat} {T : TypeId} {sz : Nat} {v : Value} {n : Nat} {xs : List Value} (h : W.ownsRow B' T sz v n xs) : iA W B T sz v n xs:=
 ⟨zw h,fun g hg => .inr (.inr (Lib.ownsRow_kind h g hg))⟩
theorem zKx {W W' : World} {B B' b : Nat} {T T' : TypeId} {sz n : Nat} {v : Value} {xs : List Value} (h : W.ownsRow B' T sz v n xs) (ho : iH W W' B b T') (hne : v.ownBlock ≠ some b) : W'.ownsRow B' T sz v n xs:=by
 obtain ⟨h1,h2⟩:=h;refine ⟨h1,?_⟩;rcases h2 with h2 | ⟨g,cap,cur,e,hb,hg,h3⟩
 ·
  exact .inl h2
 refine .inr ⟨g,cap,cur,e,hb,?_,h3⟩;rw [ho.blk g (Array.getElem?_eq_some_iff.1 hg).1 (fun e2 => hne (by rw [e,e2]; rfl))];exact hg
theorem xp {W W' : World} {B B' b : Nat} {T T' : TypeId} {sz n : Nat} {v : Value} {xs : List Value} (h : W.ownsRow B' T sz v n xs) (ho : iH W W' B b T') (hne : T ≠ T') : W'.ownsRow B' T sz v n xs:=
 zKx h ho fun e => by
  obtain ⟨c,f,h1⟩:=Lib.ownsRow_kind h b e;obtain ⟨c',f',h2⟩:=ho.ty;rw [h1] at h2;injection h2 with h2;injection h2 with _ h2;exact hne h2
/-! ### iX -/
def Ih (W : World) (B : Nat) (s : Sl) (f : Nat → List It) : Prop:=∀ i,i < 8 → iA W B 49 4 (s.v i) (f i).length (zU (f i))
theorem Ih.rd {W : World} {B : Nat} {s : Sl} {f : Nat → List It} (h : Ih W B s f) : fq W s f:=fun i hi => yt (h i hi).1
theorem Ih.below {W W' : World} {B : Nat} {s : Sl} {f : Nat → List It} (h : Ih W B s f) (hb : Below W.heap.size W W') : Ih W' B s f:=fun i hi => (h i hi).below hb
structure gq (W : World) (B : Nat) (v : Value) (L : List GP) : Prop where
 r : iA W B 38 14 v L.length (L.flatMap iY)
 m : ∀ p ∈ L,Ih W B p.2 p.1.m.st
theorem gq.rd {W : World} {B : Nat} {v : Value} {L : List GP} (h : gq W B v L) : fH W v L:=⟨⟨fun x _ => kW x,h.r.1⟩,fun p hp => (h.m p hp).rd⟩
theorem gq.below {W W' : World} {B : Nat} {v : Value} {L : List GP} (h : gq W B v L) (hb : Below W.heap.size W W') : gq W' B v L:=⟨h.r.below hb,fun p hp => (h.m p hp).below hb⟩
theorem gq.jB {W W' : World} {B b : Nat} {T' : TypeId} {v : Value} {L : List GP} (h : gq W B v L) (ho : iH W W' B b T') (h1 : 38 ≠ T') (h2 : 49 ≠ T') : gq W' B v L:=⟨h.r.jB ho h1,fun p hp i hi => (h.m p hp i hi).jB ho h2⟩
theorem gq.old {W : World} {B : Nat} {v : Value} {L : List GP} (h : fH W v L) (hB : W.heap.size ≤ B) : gq W B v L:=⟨iA.old h.r.2 hB,fun p hp i hi => iA.old (t6 (h.m p hp i hi)) hB⟩
theorem gq.own {W : World} {B B' n : Nat} {v : Value} {L : List GP} (h : gI W B' v n L) : gq W B v L:=⟨by have:=h.row; rw [h.len] at this; exact iA.own this,fun p hp i hi => iA.own (h.m p hp i hi)⟩
/-! ### Requests -/
def CD (p : Rq × Value) : List Value:=[.int .i64 p.1.tk,.int .i64 p.1.kind,.int .u64 (p.1.key : Int),.int .u32 (p.1.ck : Int),p.2]
theorem qM (p : Rq × Value) : (CD p).length = 5:=rfl
abbrev I4 (tk kind key ck : Int) (d : Value) : Value:=.agg #[.int .i64 tk,.int .i64 kind,.int .u64 key,.int .u32 ck,d]
structure Dc (w : World) (v : Value) (qs : List (Rq × Value)) : Prop where
 row : ix 5 CD w v qs
 dat : ∀ p ∈ qs,CZ w p.2 p.1.data
theorem Dc.below {w w' : World} {v : Value} {qs : List (Rq × Value)} (h : Dc w v qs) (hb : Below w.heap.size w w') : Dc w' v qs:=⟨ix.below h.row hb,fun p hp => iw.below (h.dat p hp) hb⟩
def gZ (l : List (Rq × Value)) (i : Nat) : Rq × Value:=l.getD i (PK,.slice none 0 0)
theorem YA {l : List (Rq × Value)} {i : Nat} (h : i < l.length) : gZ l i ∈ l:=by
 unfold gZ;rw [aw,aB h]; exact bM h
theorem Dc.shape {w : World} {v : Value} {qs : List (Rq × Value)} (h : Dc w v qs) : ∃ a cap,v = .slice a qs.length cap ∧ qs.length ≤ cap ∧ cap ≤ maxLen:=by
 obtain ⟨a,cap,h1,h2,h3,_⟩:=ix.shape h.row (by decide) (PK,.slice none 0 0);exact ⟨a,cap,h1,h2,h3⟩
theorem Dc.at {w : World} {a : Option Addr} {n cap : Nat} {qs : List (Rq × Value)} (h : Dc w (.slice a n cap) qs) {j : Nat} (hj : j < n) : ∃ b off,a = some ⟨b,off,none⟩ ∧ CZ w (gZ qs j).2 (gZ qs j).1.data ∧
  w.cell? ⟨b,off + j * 5,none⟩ = some (.int .i64 (gZ qs j).1.tk) ∧ w.cell? ⟨b,off + j * 5 + 1,none⟩ = some (.int .i64 (gZ qs j).1.kind) ∧ w.cell? ⟨b,off + j * 5 + 2,none⟩ = some (.int .u64 ((gZ qs j).1.key : Int)) ∧
  w.cell? ⟨b,off + j * 5 + 3,none⟩ = some (.int .u32 ((gZ qs j).1.ck : Int)) ∧ w.cell? ⟨b,off + j * 5 + 4,none⟩ = some (gZ qs j).2:=by
 obtain ⟨a',cap',e,h2,h3,_,h5⟩:=ix.shape h.row (by decide) (PK,.slice none 0 0);injection e with e1 e2 e3;subst e1 e2 e3;obtain ⟨b,off,e,hc⟩:=h5 (by omega);refine ⟨b,off,e,h.dat _ (YA hj),?_,hc j hj 1 _ rfl,hc j hj 2 _ rfl,hc j hj 3 _ rfl,hc j hj 4 _ rfl⟩;have:=hc j hj 0 _ rfl; rwa [bu] at this
/-! ### Ld of the call's own, their bytes read -/
def gF (W : World) (B : Nat) (v : Value) (d : List UInt8) : Prop:=iA W B 5 1 v d.length (d.map td)
theorem gF.rd {W : World} {B : Nat} {v : Value} {d : List UInt8} (h : gF W B v d) : CZ W v d:=h.1
structure fW (W : World) (B : Nat) (v : Value) (es : List (Nd × Value)) : Prop where
 row : W.ownsRow B 56 4 v es.length (wU es)
 dat : ∀ p ∈ es,gF W B p.2 p.1.data
theorem fW.below {W W' : World} {B : Nat} {v : Value} {es : List (Nd × Value)} (h : fW W B v es) (hb : Below W.heap.size W W') : fW W' B v es:=⟨zI h.row hb,fun p hp => (h.dat p hp).below hb⟩
theorem fW.jB {W W' : World} {B b : Nat} {T' : TypeId} {v : Value} {es : List (Nd × Value)} (h : fW W B v es) (ho : iH W W' B b T') (h1 : 56 ≠ T') (h2 : 5 ≠ T') : fW W' B v es:=⟨xp h.row ho h1,fun p hp => (h.dat p hp).jB ho h2⟩
/-! ### FI of the call's own -/
abbrev KP:=Int × Value × List Int
def jQ (p : KP) : List Value:=[.int .i64 p.1,p.2.1]
theorem uS (p : KP) : (jQ p).length = 2:=rfl
def jo (l : List KP) : List Kl:=l.map fun p => (p.1,p.2.2)
def jg (l : List KP) (i : Nat) : KP:=l.getD i (0,.slice none 0 0,[])
structure gN (W : World) (B : Nat) (v : Value) (ks : List KP) : Prop where
 row : W.ownsRow B 89 2 v ks.length (ks.flatMap jQ)
 keys : ∀ p ∈ ks,W.ownsRow B 24 1 p.2.1 p.2.2.length (p.2.2.map Pm)
 apart : ks.Pairwise fun p q => p.2.1.ownBlock = none ∨ p.2.1.ownBlock ≠ q.2.1.ownBlock
theorem gN.below {W W' : World} {B : Nat} {v : Value} {ks : List KP} (h : gN W B v ks) (hb : Below W.heap.size W W') : gN W' B v ks:=⟨zI h.row hb,fun p hp => zI (h.keys p hp) hb,h.apart⟩
theorem gN.jB {W W' : World} {B b : Nat} {T' : TypeId} {v : Value} {ks : List KP} (h : gN W B v ks) (ho : iH W W' B b T') (h1 : 89 ≠ T') (h2 : 24 ≠ T') : gN W' B v ks:=⟨xp h.row ho h1,fun p hp => xp (h.keys p hp) ho h2,h.apart⟩
/-! ### The lD -/
abbrev qJ (i l : Int) (r : Bool) (ga : Option Addr) (gn gc : Nat) (eN : Bool) (kv nv rv : Value) (mg : Int) : Array Value:=#[.int .i64 i,.int .i64 l,.bool r,.slice ga gn gc,.bool eN,.int .i64 0,kv,nv,rv,.int .i64 mg]
structure lF (W : World) (B : Nat) (P : fG) (ga : Option Addr) (gn gc : Nat) (L : List GP) (kv : Value) (ks : List KP) (nv : Value) (es : List (Nd × Value)) (rv : Value) : Prop where
 g : gq W B (.slice ga gn gc) L
 gg : ea L = P.t.dW
 k : gN W B kv ks
 kk : jo ks = P.dY
 n : fW W B nv es
 nn : es.map (·.1) = P.needs
 r : W.ownsRow B 39 1 rv P.res.length (P.res.map I3)
section
variable {W W' : World} {B b : Nat} {P : fG} {ga : Option Addr} {gn gc : Nat} {L : List GP} {kv : Value} {ks : List KP} {nv : Value} {es : List (Nd × Value)} {rv : Value}
theorem lF.below (h : lF W B P ga gn gc L kv ks nv es rv) (hb : Below W.heap.size W W') : lF W' B P ga gn gc L kv ks nv es rv:=
 ⟨h.g.below hb,h.gg,h.k.below hb,h.kk,h.n.below hb,h.nn,zI h.r hb⟩
theorem lF.jB (h : lF W B P ga gn gc L kv ks nv es rv) (ho : iH W W' B b 145) : lF W' B P ga gn gc L kv ks nv es rv:=
 ⟨h.g.jB ho (by decide) (by decide),h.gg,h.k.jB ho (by decide) (by decide),h.kk,h.n.jB ho (by decide) (by decide),h.nn,xp h.r ho (by decide)⟩
end
abbrev CG (W : World) (b : Nat) (i l : Int) (r : Bool) (ga : Option Addr) (gn gc : Nat) (eN : Bool) (kv nv rv : Value) (mg : Int) : Prop:=dX W b (qJ i l r ga gn gc eN kv nv rv mg) 145
def Dd (W : World) (B b : Nat) (P : fG) : Prop:=∃ ga gn gc L kv ks nv es rv,B ≤ b ∧ CG W b P.t.id P.t.lim P.t.ro ga gn gc P.eN kv nv rv P.bytes ∧ lF W B P ga gn gc L kv ks nv es rv
theorem Dd.below {W W' : World} {B b : Nat} {P : fG} (h : Dd W B b P) (hb : Below W.heap.size W W') : Dd W' B b P:=by
 obtain ⟨ga,gn,gc,L,kv,ks,nv,es,rv,h1,h2,h3⟩:=h;exact ⟨ga,gn,gc,L,kv,ks,nv,es,rv,h1,h2.below hb,h3.below hb⟩
end Go.Proofs.YtcgfilmmokmdjaaGreat
namespace Go.Proofs.YtcgfilmmokmdjaaGreat
theorem zG6 {l : List Kl} {i : Nat} (h : i < l.length) : l[i]? = some (yE l i):=by
 unfold yE; rw [aw,aB h]; rfl
theorem wk {l : List Kl} {i : Nat} (h : i < l.length) : yE l i ∈ l:=by
 unfold yE;rw [aw,aB h]; exact bM h
theorem xK {l : List Kl} {i : Nat} (h : i < l.length) : l[i] = yE l i:=by
 unfold yE; rw [aw,aB h]; rfl
theorem RZ {l : List Kl} (ha : l.Pairwise fun a b => a.1 < b.1) {i j : Nat} (hij : i < j) (hj : j < l.length) : (yE l i).1 < (yE l j).1:=by
 have:=List.pairwise_iff_getElem.1 ha i j (by omega) hj hij;rw [xK,xK] at this;exact this
theorem zL0 {l : List Kl} {num : Int} {i : Nat} (hi : i ≤ l.length) (h1 : ∀ k,i = k + 1 → (yE l k).1 < num) (h2 : i < l.length → ¬ (yE l i).1 < num) (ha : l.Pairwise fun a b => a.1 < b.1) : fL l num = i:=by
 have hlo : ∀ j,j < i → (yE l j).1 < num:=fun j hj => by
  obtain ⟨k,rfl⟩ : ∃ k,i = k + 1:=⟨i - 1,by omega⟩
  have h3:=h1 k rfl
  by_cases e : j = k
  ·
   rw [e]; exact h3
  have:=RZ ha (show j < k by omega) (by omega); omega
 unfold fL
 by_cases hin : i < l.length
 ·
  rw [(List.findIdx?_eq_some_iff_getElem (p:=fun k : Kl => decide (num ≤ k.1)) (i:=i)).2 ⟨hin,by rw [xK hin]; have:=h2 hin; simp; omega,fun j hj => by rw [xK (show j < l.length by omega)]; have:=hlo j hj; simp; omega⟩]
  rfl
 have e : i = l.length:=by omega
 rw [List.findIdx?_eq_none_iff.2 fun x hx => by
  obtain ⟨j,hj,rfl⟩:=b7 hx
  rw [xK hj]
  have:=hlo j (by omega)
  simp; omega]
 exact e.symm
theorem YB (l : List Kl) (num : Int) : fL l num ≤ l.length:=by
 unfold fL
 cases h : l.findIdx? fun k => decide (num ≤ k.1) with
 | none => exact ai _
 | some i => have:=(List.findIdx?_eq_some_iff_getElem.1 h).1; exact bU this
theorem zKi (l : List Kl) (num : Int) {j : Nat} (h : j < fL l num) : (yE l j).1 < num:=by
 unfold fL at h
 cases e : l.findIdx? fun k => decide (num ≤ k.1) with
 | none =>
  rw [e] at h;have h : j < l.length:=h;have:=List.findIdx?_eq_none_iff.1 e _ (wk h)
  simpa using this
 | some i =>
  rw [e] at h;have h : j < i:=h;obtain ⟨h1,h2,h3⟩:=List.findIdx?_eq_some_iff_getElem.1 e;have:=h3 j h;rw [xK (show j < l.length by omega)] at this
  simpa using this
theorem zIk (l : List Kl) (num : Int) (h : fL l num < l.length) : num ≤ (yE l (fL l num)).1:=by
 have h0:=h;unfold fL at h0
 cases e : l.findIdx? fun k => decide (num ≤ k.1) with
 | none => rw [e] at h0; exact absurd h0 (Nat.lt_irrefl _)
 | some i =>
  obtain ⟨h1,h2,_⟩:=List.findIdx?_eq_some_iff_getElem.1 e;have e2 : fL l num = i:=by unfold fL; rw [e]; rfl
  rw [e2,← xK h1]
  simpa using h2
structure Bt (M : Nat) (l : List Kl) : Prop where
 DZ : l.Pairwise fun a b => a.1 < b.1
 num : ∀ x ∈ l,1 ≤ x.1 ∧ x.1 ≤ 8
 len : ∀ x ∈ l,x.2.length ≤ M
theorem Bt.mono {M M' : Nat} {l : List Kl} (h : Bt M l) (hm : M ≤ M') : Bt M' l:=⟨h.DZ,h.num,fun x hx => ak (h.len x hx) hm⟩
theorem Bt.le8 {M : Nat} {l : List Kl} (h : Bt M l) : l.length ≤ 8:=by
 have key : ∀ j,j < l.length → (j : Int) + 1 ≤ (yE l j).1:=by
  intro j
  induction j with
  | zero => intro hj; have:=(h.num _ (wk hj)).1; omega
  | succ j ih =>
   intro hj;have h1:=ih (by omega);have h2:=RZ h.DZ (show j < j + 1 by omega) hj;omega
 by_cases e : 0 < l.length
 ·
  have h1:=key (l.length - 1) (by omega);have h2:=(h.num _ (wk (show l.length - 1 < l.length by omega))).2;omega
 omega
theorem Bt.nil (M : Nat) : Bt M []:=⟨List.Pairwise.nil,(fun x hx => by cases hx),(fun x hx => by cases hx)⟩
theorem ki {l : List Kl} {num key : Int} (h : fL l num < l.length ∧ (yE l (fL l num)).1 = num) : ku l num key = l.set (fL l num) (num,(yE l (fL l num)).2 ++ [key]):=by unfold ku; rw [ag h]
theorem qR {l : List Kl} {num key : Int} (h : ¬ (fL l num < l.length ∧ (yE l (fL l num)).1 = num)) : ku l num key = l.take (fL l num) ++ (num,[key]) :: l.drop (fL l num):=by unfold ku; rw [ah h]
theorem Bt.ins {M : Nat} {l : List Kl} (h : Bt M l) {num : Int} (hn : 1 ≤ num ∧ num ≤ 8) (key : Int) : Bt (M + 1) (ku l num key):=by
 by_cases hh : fL l num < l.length ∧ (yE l (fL l num)).1 = num
 ·
  rw [ki hh];refine ⟨?_,fun x hx => ?_,fun x hx => ?_⟩
  ·
   rw [List.pairwise_iff_getElem];intro i j hi hj hij;rw [bC] at hi hj;have:=List.pairwise_iff_getElem.1 h.DZ i j hi hj hij;rw [List.getElem_set,List.getElem_set];have e : l[fL l num] = yE l (fL l num):=xK hh.1
   split
   ·
    rename_i e1
    split
    ·
     omega
    subst e1
    show num < l[j].1
    rw [e,hh.2] at this;exact this
   split
   ·
    rename_i e1 e2;subst e2
    show l[i].1 < num
    rw [e,hh.2] at this;exact this
   exact this
  ·
   rcases dV hx with hx | rfl
   ·
    exact h.num x hx
   exact hn
  rcases dV hx with hx | rfl
  ·
   exact Nat.le_succ_of_le (h.len x hx)
  have:=h.len _ (wk hh.1)
  show ((yE l (fL l num)).2 ++ [key]).length ≤ _
  rw [ax];exact Nat.succ_le_succ this
 rw [qR hh];have hle:=YB l num;have hlo:=fun j (hj : j < fL l num) => zKi l num hj
 have PU : ∀ x ∈ l.drop (fL l num),num < x.1:=fun x hx => by
  obtain ⟨j,hj,rfl⟩:=b7 hx;rw [aP] at hj;rw [List.getElem_drop,xK (show fL l num + j < l.length by omega)];have h1:=zIk l num (by omega);have h2 : (yE l (fL l num)).1 ≠ num:=fun e => hh ⟨by omega,e⟩
  by_cases e : j = 0
  ·
   subst e; rw [bu]; omega
  have:=RZ h.DZ (show fL l num < fL l num + j by omega) (by omega); omega
 have Ch : ∀ x ∈ l.take (fL l num),x.1 < num:=fun x hx => by
  obtain ⟨j,hj,rfl⟩:=b7 hx;rw [ay] at hj;rw [List.getElem_take,xK (show j < l.length by omega)];exact hlo j (by omega)
 refine ⟨?_,fun x hx => ?_,fun x hx => ?_⟩
 ·
  rw [List.pairwise_append,cR];refine ⟨h.DZ.sublist (List.take_sublist _ _),⟨fun y hy => PU y hy,h.DZ.sublist (List.drop_sublist _ _)⟩,fun x hx y hy => ?_⟩;have h1:=Ch x hx;rcases List.mem_cons.1 hy with rfl | hy
  ·
   exact h1
  have:=PU y hy; omega
 ·
  rcases List.mem_append.1 hx with hx | hx
  ·
   exact h.num x (aY hx)
  rcases List.mem_cons.1 hx with rfl | hx
  ·
   exact hn
  exact h.num x (dH hx)
 rcases List.mem_append.1 hx with hx | hx
 ·
  exact Nat.le_succ_of_le (h.len x (aY hx))
 rcases List.mem_cons.1 hx with rfl | hx
 ·
  show [key].length ≤ _; simp
 exact Nat.le_succ_of_le (h.len x (dH hx))
theorem uR (l : List KP) : (jo l).length = l.length:=aI ..
theorem YC {l : List KP} (i : Nat) : yE (jo l) i = ((jg l i).1,(jg l i).2.2):=by
 unfold yE jo jg;rw [aw,aw,b9]
 cases l[i]? <;> rfl
theorem UA {l : List KP} {i : Nat} (h : i < l.length) : jg l i ∈ l:=by
 unfold jg;rw [aw,aB h]; exact bM h
theorem kN {s : eL} {key : Int} {n : Int} (h : n ∈ zk s key) : 1 ≤ n ∧ n ≤ 8:=by
 unfold zk at h
 split at h
 ·
  rename_i hv;have hV:=(zZ s).1 hv;obtain ⟨i,hi,e⟩:=b7 h;obtain ⟨r,h1,h2,_,_⟩:=X8 s.dW key _ i hi;rw [aB hi,e] at h2;injection h2 with h2;have:=(hV.vg (show r < s.dW.length by omega)).num;rw [h2]; exact this
 cases h
theorem zBc (s : eL) (key : Int) : (zk s key).length ≤ 8:=by
 unfold zk
 split
 ·
  rename_i hv;have hV:=(zZ s).1 hv;have h1:=zEs s.dW key (s.dW.length - 1);have h2:=hV.len;omega
 exact aq _
theorem fA.set {K : Nat} {l : List Gn} (h : fA K l) {g : Gn} (hg : ∀ i,i < 8 → (g.m.st i).length ≤ K) : fA K (uf l g):=fun x hx i hi => by
 rcases X2 hx with hx | rfl
 ·
  exact h x hx i hi
 exact hg i hi
theorem YD {s : eL} {g : Gn} {K : Nat} (h : fA K s.dW) (hg : ∀ i,i < 8 → (g.m.st i).length ≤ K) : fA K (yM s g).1.dW:=by
 by_cases hc : (yM s g).2 = 0
 ·
  rw [Ud hc]; exact h.set hg
 have e : (yM s g).1 = wJ:=by
  unfold yM at hc ⊢
  split
  ·
   rename_i h1;rw [ag h1] at hc
   split
   ·
    rename_i h2;rw [ag h2] at hc
    split
    ·
     rename_i h3; rw [ag h3] at hc; exact absurd rfl hc
    rfl
   rfl
  rfl
 rw [e]; exact fun x hx => by cases hx
theorem kP {s : eL} {num : Int} {keys : List Int} {K : Nat} (h : fA K s.dW) : fA K (yv s num keys).1.dW:=by
 unfold yv
 split
 ·
  rename_i h1
  split
  ·
   refine YD h fun i hi => ?_
   have hk:=h _ (ux h1);have h0 : ((gY).m.st i).length ≤ K:=aq _;unfold yY
   split
   ·
    split
    ·
     exact h0
    exact wQ keys _ hk i hi
   exact h0
  exact fun x hx => by cases hx
 exact fun x hx => by cases hx
end Go.Proofs.YtcgfilmmokmdjaaGreat
namespace Go.Proofs.YtcgfilmmokmdjaaGreat
open Go.RowKit
theorem zHo (i l : Int) (r : Bool) (a : Option Addr) (n c : Nat) (L : List GP) (w : World) (h : fH w (.slice a n c) L) (hs : ∀ p ∈ L,∀ j,j < 8 → (p.1.m.st j).length ≤ 10000) (m : Int) :
  Calls Tryz.prog 36 #[ze i l r a n c,.int .i64 m] w fun e w' => e = .returned (.bool (wl ⟨i,l,r,ea L⟩ m)) ∧ Below w.heap.size w w':=by
 have gH:=zh (fun W (hb : Below w.heap.size w W) => yU i l r a n c L W (h.below hb) hs);have eG:=zh (fc.new w i l r a n c 27);have eQ:=zh (zS w i l r a n c 27);have hcs : wl ⟨i,l,r,ea L⟩ m = (zd ⟨i,l,r,ea L⟩ && (decide (0 ≤ m) && decide (m ≤ 4096)) && decide ((zK ⟨i,l,r,ea L⟩).size + (eP m.toNat : Nat) ≤ l)):=rfl
 cases hv : zd ⟨i,l,r,ea L⟩
 ·
  rw [hv] at gH hcs;have HF:=zh (show wl ⟨i,l,r,ea L⟩ m = false by rw [hcs]; rfl);clear h hs hv hcs;generalize wl ⟨i,l,r,ea L⟩ m = F at *
  go_enter Tryz.func36,Tryz.ntmps36
  go_upto_region 1 with fail;obtain ⟨W,hW⟩ : ∃ W,w.alloc (.cells (zN i l r a n c) 27) = W:=⟨_,rfl⟩
  change Code.wp _ _ _ _ (w.alloc (.cells (zN i l r a n c) 27));rw [hW] at eG eQ ⊢;clear hW;have Dm:=eG.out.lt;obtain ⟨k0,k1,k2,k3⟩:=eG.out.q;go_wp2_with fail;refine (gH.out _ eQ.out).mono ?_;rintro e w1 ⟨rfl,hb1⟩;have eW:=zh (zA eQ.out hb1);clear k0 k1 k2 k3 hb1;go_wp2_with fail;go_ret;exact ⟨by rw [HF.out]; rfl,eW.out⟩
 by_cases h1 : m < 0
 ·
  rw [hv] at gH hcs;have HF:=zh (show wl ⟨i,l,r,ea L⟩ m = false by rw [hcs,show decide (0 ≤ m) = false by simp; omega]; rfl);have e1 : decide (m < 0) = true:=by simp; omega
  clear h hs hv hcs;generalize wl ⟨i,l,r,ea L⟩ m = F at *
  go_enter Tryz.func36,Tryz.ntmps36
  go_upto_region 1 with fail;obtain ⟨W,hW⟩ : ∃ W,w.alloc (.cells (zN i l r a n c) 27) = W:=⟨_,rfl⟩
  change Code.wp _ _ _ _ (w.alloc (.cells (zN i l r a n c) 27));rw [hW] at eG eQ ⊢;clear hW;have Dm:=eG.out.lt;obtain ⟨k0,k1,k2,k3⟩:=eG.out.q;go_wp2_with fail;refine (gH.out _ eQ.out).mono ?_;rintro e w1 ⟨rfl,hb1⟩;have eW:=zh (zA eQ.out hb1);clear k0 k1 k2 k3 hb1;go_wp2_with fail;go_ret;exact ⟨by rw [HF.out]; rfl,eW.out⟩
 by_cases h2 : 4096 < m
 ·
  rw [hv] at gH hcs;have HF:=zh (show wl ⟨i,l,r,ea L⟩ m = false by rw [hcs,show decide (m ≤ 4096) = false by simp; omega]; simp);have e1 : decide (m < 0) = false:=by simp; omega
  have e2 : decide ((4096 : Int) < m) = true:=by simp; omega
  clear h hs hv hcs;generalize wl ⟨i,l,r,ea L⟩ m = F at *
  go_enter Tryz.func36,Tryz.ntmps36
  go_upto_region 1 with fail;obtain ⟨W,hW⟩ : ∃ W,w.alloc (.cells (zN i l r a n c) 27) = W:=⟨_,rfl⟩
  change Code.wp _ _ _ _ (w.alloc (.cells (zN i l r a n c) 27));rw [hW] at eG eQ ⊢;clear hW;have Dm:=eG.out.lt;obtain ⟨k0,k1,k2,k3⟩:=eG.out.q;go_wp2_with fail;refine (gH.out _ eQ.out).mono ?_;rintro e w1 ⟨rfl,hb1⟩;have eW:=zh (zA eQ.out hb1);clear k0 k1 k2 k3 hb1;go_wp2_with fail;go_ret;exact ⟨by rw [HF.out]; rfl,eW.out⟩
 obtain ⟨k,rfl⟩ : ∃ k : Nat,m = (k : Int):=⟨m.toNat,by omega⟩
 have gy : L.length = n:=by
  obtain ⟨_,_,e,_⟩:=h.shape;injection e with _ e _; exact e.symm
 have hV:=(zZ _).1 hv;have hn : 1 ≤ n:=by have:=hV.len; simp only [yB,gy] at this; exact this.1
 obtain ⟨j,rfl⟩ : ∃ j,n = j + 1:=⟨n - 1,by omega⟩
 refine (zHr i l r a (j + 1) c L w h hs hv k (by omega)).mono fun e w' ⟨he,hb⟩ => ⟨?_,hb⟩
 rw [he,hcs,hv,ul gy,show decide ((0 : Int) ≤ (k : Int)) = true by simp,show decide ((k : Int) ≤ 4096) = true by simp; omega];simp
end Go.Proofs.YtcgfilmmokmdjaaGreat
