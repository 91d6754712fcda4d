/- A part of the walk. -/
import Derived.Test.YtcgfilmmokmdjaaGreatQAQ
import Derived.Test.YtcgfilmmokmdjaaGreatSkb
import Derived.Test.YtcgfilmmokmdjaaGreatQAN
import Derived.Test.YtcgfilmmokmdjaaGreatQAL
import Derived.Test.YtcgfilmmokmdjaaGreatQAU
set_option linter.all false
set_option maxRecDepth 100000
set_option maxHeartbeats 32000000
namespace Go.Proofs.YtcgfilmmokmdjaaGreat
open Go.RowKit
theorem zLU (i l : Int) (r : Bool) (a : Option Addr) (n c : Nat) (L : List GP) (w : World) (h : fH w (.slice a n c) L) (hs : ∀ p ∈ L,∀ j,j < 8 → (p.1.m.st j).length ≤ 10000) (y : GP) (hy : fq w y.2 y.1.m.st) (Cr : ∀ j,j < 8 → (y.1.m.st j).length ≤ 10000) (hv : zd ⟨i,l,r,ea L⟩ = false) :
  Calls Tryz.prog 14 #[ze i l r a n c,zV y.1.num y.1.rev y.1.mode y.1.size y.2 y.1.m.live y.1.m.dZ] w (jl w (yM ⟨i,l,r,ea L⟩ y.1)):=by
 have gH:=zh (fun W (hb : Below w.heap.size w W) => yU i l r a n c L W (h.below hb) hs);have HC:=zh (show yM ⟨i,l,r,ea L⟩ y.1 = (wJ,1) by unfold yM; rw [hv]; rfl);rw [hv] at gH;clear h hs hv hy Cr
 go_enter Tryz.func14,Tryz.ntmps14
 go_upto_region 1 with fail;change Code.wp _ _ _ _ (((w.alloc (.cells (zN i l r a n c) 27)).alloc (.cells (zQ y.1.num y.1.rev y.1.mode y.1.size y.2 y.1.m.live y.1.m.dZ) 38)).alloc (.cells (zN 0 0 false none 0 0) 27));obtain ⟨W,hW,fF,hbg,hbr,fP⟩:=vk w i l r a n c y 27 38;rw [hW];have HX:=zh fF;have HG:=zh hbg;have HR:=zh hbr;have HB:=zh fP;clear hW fF hbg hbr fP;obtain ⟨k0,k1,k2,k3⟩:=HX.out.q;go_wp2_with fail;refine (gH.out _ HB.out).mono ?_;rintro e w1 ⟨rfl,hb⟩;replace HX:=zh (HX.out.below hb);replace HR:=zh (HR.out.below hb);replace HB:=zh (zA HB.out hb);clear hb;clear k0 k1 k2 k3;obtain ⟨z0,z1,z2,z3⟩:=HR.out.q;have zf:=HR.out.f;go_wp2_with fail;change bodyPost _ _ _ _ _ (pts w1 (w.heap.size + 2) (zP 0 0 false none 0 0));have hby:=HR.out.all 0 0 false none 0 0
 have ey:=zh (zD (B:=w.heap.size) (b:=(w.heap.size + 2)) (by omega) (zP 0 0 false none 0 0) HB.out);generalize pts w1 (w.heap.size + 2) (zP 0 0 false none 0 0) = V at *;exact au (v:=.tuple #[ze 0 0 false none 0 0,.int .i64 1]) (by simp [results,Tryz.results14,go_sem,hby.c0,hby.c1,hby.c2,hby.c3]) rfl (by rw [HC.out]; exact jl.no ey.out)
theorem zKW (i l : Int) (r : Bool) (a : Option Addr) (n c : Nat) (L : List GP) (w : World) (h : fH w (.slice a n c) L) (hs : ∀ p ∈ L,∀ j,j < 8 → (p.1.m.st j).length ≤ 10000) (y : GP) (hy : fq w y.2 y.1.m.st) (Cr : ∀ j,j < 8 → (y.1.m.st j).length ≤ 10000) (hv : zd ⟨i,l,r,ea L⟩ = true) :
  Calls Tryz.prog 14 #[ze i l r a n c,zV y.1.num y.1.rev y.1.mode y.1.size y.2 y.1.m.live y.1.m.dZ] w (jl w (yM ⟨i,l,r,ea L⟩ y.1)):=by
 have gH:=zh (fun W (hb : Below w.heap.size w W) => yU i l r a n c L W (h.below hb) hs);have hV:=(zZ _).1 hv;have gy : L.length = n:=by
  obtain ⟨_,_,e,_⟩:=h.shape;injection e with _ e _; exact e.symm
 have hl : (ea L).length = n:=by rw [yB,gy]
 have hn : 1 ≤ n ∧ n ≤ 8:=by have:=hV.len; simp only [hl] at this; exact this
 have HC:=zh (show yM ⟨i,l,r,ea L⟩ y.1 = (if uv L y.1.num n = true then (if zd ⟨i,l,r,uf (ea L) y.1⟩ = true then (⟨i,l,r,uf (ea L) y.1⟩,0) else (wJ,1)) else (wJ,6)) by
  unfold yM; rw [ag hv,Yi L y.1.num n gy.symm])
 have JO:=zh (fun k (hk : k < n) (e : (pat L k).1.num = y.1.num) => show uf (ea L) y.1 = (ea L).set k y.1 from zCw hV (k:=k) (by rw [hl]; exact hk) (by rw [xJ]; exact e))
 have Od:=zh (show ∀ k,k < n → (pat L k).1.num = y.1.num → uv L y.1.num n = true from fun k hk e => by
  unfold uv
  rw [List.any_eq_true]
  refine ⟨pat L k,?_,by simp [e]⟩
  rw [aH (by omega)]
  exact xN (by omega))
 have Ig:=zh (show (∀ j,j < L.length → (pat L j).1.num ≠ y.1.num) → uv L y.1.num n = false from fun hh => by
  unfold uv
  rw [Bool.eq_false_iff]
  intro ht
  rw [List.any_eq_true] at ht
  obtain ⟨x,hx,e⟩:=ht
  obtain ⟨j,hj,rfl⟩:=b7 (aY hx)
  have h1:=hh j hj
  unfold pat at h1
  rw [aw,aB hj] at h1
  exact h1 (aX e))
 rw [hv] at gH;have Bd:=zh h;have Ls:=zh hs;have mJ:=zh hy;have Er:=zh Cr;have iL:=zh gy;clear h hs hv hV gy hl hy Cr;obtain ⟨⟨num,rev,md,sz,⟨fs,LV,GA⟩⟩,s⟩:=y;dsimp only at *
 go_enter Tryz.func14,Tryz.ntmps14
 go_upto_region 1 with fail;change Code.wp _ _ _ _ (((w.alloc (.cells (zN i l r a n c) 27)).alloc (.cells (zQ num rev md sz s LV GA) 38)).alloc (.cells (zN 0 0 false none 0 0) 27));obtain ⟨W,hW,fF,hbg,hbr,fP⟩:=vk w i l r a n c (⟨num,rev,md,sz,⟨fs,LV,GA⟩⟩,s) 27 38;rw [hW];have HX:=zh fF;have HG:=zh hbg;have HR:=zh hbr;have HB:=zh fP;clear hW fF hbg hbr fP;have hB0 : w.heap.size + 3 ≤ W.heap.size:=by have:=HR.out.lt; omega
 dsimp only at HG;obtain ⟨k0,k1,k2,k3⟩:=HX.out.q;go_wp2_with fail;refine (gH.out _ HB.out).mono ?_;rintro e w1 ⟨rfl,hb⟩;replace HX:=zh (HX.out.below hb);replace HG:=zh (HG.out.below hb);replace HR:=zh (HR.out.below hb);replace HB:=zh (zA HB.out hb);have hB1:=ak hB0 hb.size;clear hb gH;clear k0 k1 k2 k3;have MB:=zh (zCG a n c L (w.heap.size + 1) num rev md sz s LV GA w1 (Bd.out.below HB.out) (by omega) HG.out);have k3:=HX.out.c3;go_wp2_with fail;refine MB.out.mono ?_;rintro e w2 ⟨⟨z,rfl,hF⟩,hb⟩;replace HX:=zh (HX.out.below hb);replace HG:=zh (HG.out.below hb);replace HR:=zh (HR.out.below hb);replace HB:=zh (zA HB.out hb);have hB2:=ak hB1 hb.size;clear hb k3 MB;rcases hF with ⟨k,hk,rfl,hkn,_⟩ | ⟨rfl,hF⟩
 ·
  have hk' : k < n:=by rw [← iL.out]; exact hk
  have B9:=zh (HC.out.trans (ag (Od.out k hk' hkn)));have RV:=JO.out k hk' hkn;rw [RV] at B9;clear HC Od Ig JO RV hk hkn;have i1 : ¬ (k : Int) < 0:=by omega
  obtain ⟨k0,k1,k2,k3⟩:=HX.out.q;go_wp2_with fail;refine (zBb i l r a n c L w2 (Bd.out.below HB.out) Ls.out (by omega)).mono ?_;rintro e w3 hq;obtain ⟨⟨a1,c1,M,rfl,ho,hg⟩,hb⟩:=hq;have E4:=zh (ho.lower hB2);have jm:=zh hg;clear k0 k1 k2 k3 ho hg;replace HX:=zh (HX.out.below hb);replace HG:=zh (HG.out.below hb);replace HR:=zh (HR.out.below hb);replace HB:=zh (zA HB.out hb);have Mt:=ak hB2 hb.size;clear hb;obtain ⟨k0,k1,k2,k3⟩:=HX.out.q;have kf:=HX.out.f;go_upto_region 7 with fail;clear k0 k1 k2 k3 kf;obtain ⟨g,rfl,hgB,Co⟩:=ui E4.out.row (by omega);have iM:=zh (HX.out.all i l r (some ⟨g,0,none⟩) n c1);have Fw:=zh (HG.out.eD (c:=w.heap.size) (by omega) (zP i l r (some ⟨g,0,none⟩) n c1));have lB:=zh (HR.out.eD (d:=w.heap.size) (by omega) (zP i l r (some ⟨g,0,none⟩) n c1))
  have fZ:=zh (zD (B:=w.heap.size) (b:=w.heap.size) (ai _) (zP i l r (some ⟨g,0,none⟩) n c1) HB.out);have jx:=zh (E4.out.pts (b:=w.heap.size) (by omega) (zP i l r (some ⟨g,0,none⟩) n c1));have C1 : w.heap.size + 3 ≤ (pts w3 w.heap.size (zP i l r (some ⟨g,0,none⟩) n c1)).heap.size:=by rw [uI]; exact Mt
  clear HX HG HR HB E4;change Code.wp _ _ _ _ (pts w3 w.heap.size (zP i l r (some ⟨g,0,none⟩) n c1));generalize pts w3 w.heap.size (zP i l r (some ⟨g,0,none⟩) n c1) = w4 at *;have FH:=zh (fun W (hb : Below w4.heap.size w4 W) => uz ⟨num,rev,md,sz,⟨fs,LV,GA⟩⟩ s W (mJ.out.below (zA fZ.out hb)) Er.out);dsimp only at FH;refine yx [eX (.pointer (some ⟨w.heap.size,3,none⟩)),eX (.slice (some ⟨g,0,none⟩) n c1),eX (.int .i64 (k : Int)),eX (zV num rev md sz s LV GA),Yx (w.heap.size + 3) ⟨num,rev,md,sz,⟨fs,LV,GA⟩⟩] [] 31 (by kernel_rfl) (by kernel_rfl) (by rfl) (by kernel_rfl) (fun f => by simp [fD,zW,Act.put]; exact rfl) ?_ ?_
  ·
   refine ⟨?_,?_,?_,?_,?_,trivial⟩
   ·
    intro f w1 hb hd;clear hd;dsimp only;go_wp2_with fail;exact pS rfl (by simp)
   ·
    intro f w1 hb hd;have d0 : f 0 = (.pointer (some ⟨w.heap.size,3,none⟩)):=hd 0 (by kernel_rfl);clear hd;dsimp only;rw [d0];have q3:=(iM.out.below hb).c3;go_wp2_with fail;exact pS rfl (by simp)
   ·
    intro f w1 hb hd;clear hd;dsimp only;go_wp2_with fail;exact pS rfl (by simp)
   ·
    intro f w1 hb hd;clear hd;dsimp only;have zo:=Fw.out.below hb;obtain ⟨q0,q1,q2,q3,q4,q5,q6,q7,q8,q9,FC,FD,FE,FF⟩:=zo.q;clear zo;go_wp2_with fail;exact pS rfl (by simp)
   intro f w1 hb hd;have d3 : f 3 = (zV num rev md sz s LV GA):=hd 3 (by kernel_rfl);clear hd;dsimp only;rw [d3];go_wp2_with fail;refine (FH.out w1 hb).mono ?_;rintro e w9 ⟨⟨s9,rfl,B5⟩,gL⟩;have ic:=zh (B5.mono (ak C1 hb.size));clear B5;go_wp2_with fail;exact ⟨rfl,gL,fun t ht => by injection ht with ht; subst ht; exact ⟨⟨s9,rfl,ic.out⟩,fun h => by simp at h⟩⟩
  intro f w5 hb hd iD;clear iD;have d1 : f 1 = .slice (some ⟨g,0,none⟩) n c1:=hd 1 (show 1 < 5 by decide);have d2 : f 2 = .int .i64 (k : Int):=hd 2 (show 2 < 5 by decide);obtain ⟨s4,d4,I1⟩:=show ∃ s,f 4 = zV num rev md sz s LV GA ∧ eZ w5 (w.heap.size + 3) s fs from hd 4 (show 4 < 5 by decide);clear hd
  try dsimp only
  rw [d1,d2,d4];clear d1 d2 d4;generalize f 0 = z0;generalize f 3 = z3;clear f;have E5:=jx.out.keep hb;have RS:=zh ((Ul E5.row E5.len hk').there (wW E5.row));have iV:=zh (E5.set k hk' ((⟨num,rev,md,sz,⟨fs,LV,GA⟩⟩ : Gn),s4) I1);dsimp only at iV;have fw:=zh ((iM.out.below hb).eD (d:=g) (by omega) (Dv (k * 14) num rev md sz s4 LV GA));have iR:=zh ((lB.out.below hb).eD (d:=g) (by omega) (Dv (k * 14) num rev md sz s4 LV GA));have gw:=zh (zD (B:=w.heap.size) (b:=g) (by omega) (Dv (k * 14) num rev md sz s4 LV GA) (zA fZ.out hb));have JB:=zh (show ea (M.set k ((⟨num,rev,md,sz,⟨fs,LV,GA⟩⟩ : Gn),s4)) = (ea L).set k (⟨num,rev,md,sz,⟨fs,LV,GA⟩⟩ : Gn) from by rw [Yw,jm.out])
  have RX:=zh (show ∀ p ∈ M.set k ((⟨num,rev,md,sz,⟨fs,LV,GA⟩⟩ : Gn),s4),∀ j,j < 8 → (p.1.m.st j).length ≤ 10000 from fun p hp j hj => by
   rcases dV hp with hp | rfl
   ·
    have h1 : p.1 ∈ ea L:=jm.out ▸ cU hp
    obtain ⟨q,hq,e⟩:=List.mem_map.1 h1
    rw [← e]; exact Ls.out q hq j hj
   exact Er.out j hj)
  clear E5 I1 hb FH iM Fw lB fZ jx jm;change wpList _ _ _ (_ :: _ :: []) _ _;go_wp2_with (first | ((with_reducible refine wpList_store_mid ?_ 38 (.tmp 25) (.tmp 24) ?_ g (k * 14) (zQ num rev md sz s4 LV GA) ?_ ?_ ?_ ?_ ?_ ?_); rfl; rfl; rfl; rfl; exact RS.out; exact Yo; exact Ur _ _ _ _ _ _ _; rw [k7]; generalize (pts w5 g (Dv (k * 14) num rev md sz s4 LV GA)) = w6 at *; have k0:=fw.out.c0; have k1:=fw.out.c1; have k2:=fw.out.c2; have k3:=fw.out.c3));refine (yU i l r (some ⟨g,0,none⟩) n c1 _ w6 iV.out.rd RX.out).mono ?_;rintro e w7 ⟨rfl,hb⟩;rw [JB.out];replace fw:=zh (fw.out.below hb);replace iR:=zh (iR.out.below hb);replace gw:=zh (zA gw.out hb);replace iV:=zh (iV.out.keep hb);clear hb k0 k1 k2 k3 RX;generalize KE : zd ⟨i,l,r,(ea L).set k (⟨num,rev,md,sz,⟨fs,LV,GA⟩⟩ : Gn)⟩ = bv at *
  cases bv
  ·
   have HC:=zh (B9.out.trans (ah (by decide)));clear B9 KE;obtain ⟨z0,z1,z2,z3⟩:=iR.out.q;have zf:=iR.out.f;go_wp2_with fail;change bodyPost _ _ _ _ _ (pts w7 (w.heap.size + 2) (zP 0 0 false none 0 0));have hby:=iR.out.all 0 0 false none 0 0;have ey:=zh (zD (B:=w.heap.size) (b:=(w.heap.size + 2)) (by omega) (zP 0 0 false none 0 0) gw.out);generalize pts w7 (w.heap.size + 2) (zP 0 0 false none 0 0) = V at *;exact au (v:=.tuple #[ze 0 0 false none 0 0,.int .i64 1]) (by simp [results,Tryz.results14,go_sem,hby.c0,hby.c1,hby.c2,hby.c3]) rfl (by rw [HC.out]; exact jl.no ey.out)
  have HC:=zh (B9.out.trans (ag rfl));clear B9 KE;obtain ⟨k0,k1,k2,k3⟩:=fw.out.q;obtain ⟨z0,z1,z2,z3⟩:=iR.out.q;have zf:=iR.out.f;go_wp2_with fail;change bodyPost _ _ _ _ _ (pts w7 (w.heap.size + 2) (zP i l r (some ⟨g,0,none⟩) n c1));have EY:=zh (iV.out.pts (b:=w.heap.size + 2) (by omega) (zP i l r (some ⟨g,0,none⟩) n c1));have hby:=iR.out.all i l r (some ⟨g,0,none⟩) n c1;have ey:=zh (zD (B:=w.heap.size) (b:=(w.heap.size + 2)) (by omega) (zP i l r (some ⟨g,0,none⟩) n c1) gw.out);generalize pts w7 (w.heap.size + 2) (zP i l r (some ⟨g,0,none⟩) n c1) = V at *;exact au (v:=.tuple #[ze i l r (some ⟨g,0,none⟩) n c1,.int .i64 0]) (by simp [results,Tryz.results14,go_sem,hby.c0,hby.c1,hby.c2,hby.c3]) rfl (by rw [HC.out]; exact ⟨⟨_,n,c1,_,rfl,EY.out.rd,JB.out⟩,ey.out⟩)
 have B9:=zh (HC.out.trans (ah (by rw [Ig.out hF]; decide)));clear HC Od Ig JO hF;obtain ⟨z0,z1,z2,z3⟩:=HR.out.q;have zf:=HR.out.f;go_wp2_with fail;change bodyPost _ _ _ _ _ (pts w2 (w.heap.size + 2) (zP 0 0 false none 0 0));have hby:=HR.out.all 0 0 false none 0 0;have ey:=zh (zD (B:=w.heap.size) (b:=(w.heap.size + 2)) (by omega) (zP 0 0 false none 0 0) HB.out);generalize pts w2 (w.heap.size + 2) (zP 0 0 false none 0 0) = V at *;exact au (v:=.tuple #[ze 0 0 false none 0 0,.int .i64 6]) (by simp [results,Tryz.results14,go_sem,hby.c0,hby.c1,hby.c2,hby.c3]) rfl (by rw [B9.out]; exact jl.no ey.out)
theorem zEu (i l : Int) (r : Bool) (a : Option Addr) (n c : Nat) (L : List GP) (w : World) (h : fH w (.slice a n c) L) (hs : ∀ p ∈ L,∀ j,j < 8 → (p.1.m.st j).length ≤ 10000) (y : GP) (hy : fq w y.2 y.1.m.st) (Cr : ∀ j,j < 8 → (y.1.m.st j).length ≤ 10000) : Calls Tryz.prog 14 #[ze i l r a n c,zV y.1.num y.1.rev y.1.mode y.1.size y.2 y.1.m.live y.1.m.dZ] w (jl w (yM ⟨i,l,r,ea L⟩ y.1)):=by
 cases hv : zd ⟨i,l,r,ea L⟩
 ·
  exact zLU i l r a n c L w h hs y hy Cr hv
 exact zKW i l r a n c L w h hs y hy Cr hv
/-! ### Plain -/
noncomputable def zj : List Kl → eL → eL × Int
  | [],s => (s,0)
  | k :: r,s => if (yv s k.1 k.2).2 = 0 then zj r (yv s k.1 k.2).1 else (wJ,(yv s k.1 k.2).2)
theorem zCL : ∀ (l m : List Kl) (s : eL),(zj l s).2 = 0 → zj (l ++ m) s = zj m (zj l s).1
  | [],_,_,_ => rfl
  | k :: r,m,s,h => by
    unfold zj at h
    show (if (yv s k.1 k.2).2 = 0 then zj (r ++ m) (yv s k.1 k.2).1 else _) = zj m (if (yv s k.1 k.2).2 = 0 then zj r (yv s k.1 k.2).1 else _).1
    by_cases e : (yv s k.1 k.2).2 = 0
    · rw [ag e] at h
      rw [ag e,ag e];exact zCL r m _ h
    rw [ah e] at h;exact absurd h e
theorem zE3 {l : List Kl} {k : Nat} (hk : k < l.length) {s : eL} (h : (zj (l.take k) s).2 = 0) (h2 : (yv (zj (l.take k) s).1 (yE l k).1 (yE l k).2).2 = 0) : zj (l.take (k + 1)) s = ((yv (zj (l.take k) s).1 (yE l k).1 (yE l k).2).1,0):=by
  have e : l.take (k + 1) = l.take k ++ [yE l k]:=by rw [cz,zG6 hk]; rfl
  rw [e,zCL _ _ _ h]
  show (if _ = 0 then zj [] _ else _) = _
  rw [ag h2]; rfl
noncomputable def zJ0 (s : eL) (eN : Bool) (ks : List Kl) (l : List Nd) : eL × Int:=
  if zd s = true then
    (if eN = true then vZ s
     else if (zj ks s).2 = 0 then
       (if (xQ (zK s) l).1 = 0 then yM (zj ks s).1 (xQ (zK s) l).2 else (wJ,(xQ (zK s) l).1))
     else (wJ,(zj ks s).2))
  else (wJ,1)
theorem kQ {K : Nat} : ∀ (l : List Kl) (s : eL),fA K s.dW → fA K (zj l s).1.dW
  | [],_,h => h
  | k :: r,s,h => by
    unfold zj
    split
    · exact kQ r _ (kP h)
    exact fun g hg => by cases hg
/-! ### FI in memory, as they are read -/
structure Il (w : World) (v : Value) (ks : List KP) : Prop where
  row : ix 2 jQ w v ks
  keys : ∀ p ∈ ks,lJ w p.2.1 p.2.2
theorem Il.below {w w' : World} {v : Value} {ks : List KP} (h : Il w v ks) (hb : Below w.heap.size w w') : Il w' v ks:=⟨ix.below h.row hb,fun p hp => iw.below (h.keys p hp) hb⟩
theorem Zh {l : List KP} {i : Nat} (h : i < l.length) : jg l i ∈ l:=by
  unfold jg;rw [aw,aB h]; exact bM h
theorem Il.at {w : World} {a : Option Addr} {n cap : Nat} {ks : List KP} (h : Il w (.slice a n cap) ks) {j : Nat} (hj : j < n) : ∃ b off,a = some ⟨b,off,none⟩ ∧ lJ w (jg ks j).2.1 (jg ks j).2.2 ∧
    w.cell? ⟨b,off + j * 2,none⟩ = some (.int .i64 (jg ks j).1) ∧ w.cell? ⟨b,off + j * 2 + 1,none⟩ = some (jg ks j).2.1:=by
  obtain ⟨a',cap',e,h2,h3,_,h5⟩:=ix.shape h.row (by decide) (0,.slice none 0 0,[]);injection e with e1 e2 e3;subst e1 e2 e3;obtain ⟨b,off,e,hc⟩:=h5 (by omega);refine ⟨b,off,e,h.keys _ (Zh hj),?_,hc j hj 1 _ rfl⟩;have:=hc j hj 0 _ rfl; rwa [bu] at this
theorem zEV (ks : List KP) (i : Nat) : yE (jo ks) i = ((jg ks i).1,(jg ks i).2.2):=by
  unfold yE jo jg;rw [aw,aw,b9]
  cases ks[i]? <;> rfl
end Go.Proofs.YtcgfilmmokmdjaaGreat
