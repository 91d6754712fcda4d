/- A part of the walk. -/
import Derived.Test.YtcgfilmmokmdjaaGreatHd
import Derived.Test.YtcgfilmmokmdjaaGreatQAG
import Derived.Test.YtcgfilmmokmdjaaGreatQAQ
set_option linter.all false
set_option maxRecDepth 100000
set_option maxHeartbeats 32000000
namespace Go.Proofs.YtcgfilmmokmdjaaGreat
open Go.RowKit
theorem zBW {l : List Int} {i : Nat} (h : i < l.length) : l.take (i + 1) = l.take i ++ [CB l i]:=by
 unfold CB;rw [cz,aB h,aw,aB h]; rfl
theorem zIY (g : Gn) (s : Sl) (v : Value) (ks : List Int) (w : World) (h : fq w s g.m.st) (hs : ∀ i,i < 8 → (g.m.st i).length ≤ 9000) (hr : lJ w v ks) (hkl : ks.length ≤ 100000) :
  Calls Tryz.prog 46 #[zV g.num g.rev g.mode g.size s g.m.live g.m.dZ,v] w (Rj w s g.m.st (yY g ks)):=by
 obtain ⟨va,vc,rfl,Dk,hv2,_⟩:=hr.shape 0;have H4 : ∀ i,i < 8 → (g.m.st i).length ≤ 10000:=fun i hi => ak (hs i hi) (by omega)
 have HV:=zh (fun W (hb : Below w.heap.size w W) => uU g s W (h.below hb) H4);have iQ:=zh hr;have NU:=zh h;have lz:=zh (show ∀ W,eR W w.heap.size s g.m.st Sl.nil gY.m.st from fun W => eR.nil W _ _ _);have HG:=zh (show yY g ks = if wM g = true then (if g.mode = 1 then (12,gY) else (0,{ g with m:=ks.foldl yP g.m })) else (1,gY) from rfl);have iL:=zh (fun i => wQ (ks.take i) g.m hs);have jM:=zh (show ∀ i,i < ks.length → (ks.take (i + 1)).foldl yP g.m = yP ((ks.take i).foldl yP g.m) (CB ks i) from fun i hi => by rw [zBW hi,dy]; rfl);have lW:=zh (show ks.take ks.length = ks from cm);clear hr h hs H4;generalize hnn : ks.length = n at *;have Xz:=zh hnn;clear hnn;obtain ⟨gn,rv,md,z,⟨f,L,G⟩⟩:=g;generalize B6 : (⟨gn,rv,md,z,⟨f,L,G⟩⟩ : Gn) = g at *;have XA:=zh B6;obtain ⟨W,hW,fF,hbr,fP⟩:=vE w gn rv md z s L G 113;have HX:=zh fF;have HR:=zh hbr
 have HB:=zh fP;clear fF hbr fP;generalize yY g ks = TG at *;generalize wM g = vb at *;subst B6;dsimp only at *;obtain ⟨M0,LA⟩ : ∃ M0 : Mp,(⟨f,L,G⟩ : Mp) = M0:=⟨_,rfl⟩
 rw [LA] at iL jM;have Ps:=zh (show (ks.take 0).foldl yP M0 = ⟨f,L,G⟩ from LA.symm);have CT:=zh (show vb = true → md ≠ 1 → TG = (0,⟨gn,rv,md,z,ks.foldl yP M0⟩) from fun e1 e2 => by rw [HG.out,ag e1,ah e2,LA]);clear LA
 go_enter Tryz.func46,Tryz.ntmps46
 go_upto_region 1 with fail;change Code.wp _ _ _ _ ((w.alloc (.cells (zQ gn rv md z s L G) 113)).alloc (.cells (zQ 0 0 0 0 Sl.nil 0 0) 113));rw [hW];clear hW;obtain ⟨x0,x1,x2,x3,x4,x5,x6,x7,x8,x9,fS,fT,fQ,fR⟩:=HX.out.q;go_wp2_with fail;refine (HV.out _ HB.out).mono ?_;rintro e w1 ⟨rfl,hb1⟩;have fC:=zh (HX.out.below hb1);have eY:=zh (HR.out.below hb1);have eW:=zh (zA HB.out hb1);have hlr : w.heap.size + 1 < W.heap.size:=HR.out.lt;have Yz:=eY.out.lt;clear x0 x1 x2 x3 x4 x5 x6 x7 x8 x9 fS fT fQ fR;clear hb1 HX HR HB HV
 cases vb
 ·
  have iP:=zh (show TG = (1,gY) by rw [HG.out]; rfl);obtain ⟨r0,r1,r2,r3,r4,r5,r6,r7,r8,r9,jU,lM,mI,Ba⟩:=eY.out.q;have rf:=eY.out.f;go_wp2_with fail;change bodyPost _ _ _ _ _ (pts w1 (w.heap.size + 1) (zJ 0 0 0 0 Sl.nil 0 0));have hby:=eY.out.all 0 0 0 0 Sl.nil 0 0;have ey:=zh (zD (B:=w.heap.size) (b:=(w.heap.size + 1)) (by omega) (zJ 0 0 0 0 Sl.nil 0 0) eW.out);have gJ:=lz.out (pts w1 (w.heap.size + 1) (zJ 0 0 0 0 Sl.nil 0 0));rw [iP.out];generalize pts w1 (w.heap.size + 1) (zJ 0 0 0 0 Sl.nil 0 0) = V at *;exact au (v:=.tuple #[zV 0 0 0 0 Sl.nil 0 0,.int .i64 1]) (by simp [results,Tryz.results46,go_sem,hby.q]) rfl ⟨⟨_,rfl,gJ⟩,ey.out⟩
 by_cases rj : md = 1
 ·
  have iP:=zh (show TG = (12,gY) by rw [HG.out,ag rfl,ag rj]);have e1 : (md == 1) = true:=by rw [rj]; rfl
  clear HG CT;obtain ⟨x0,x1,x2,x3,x4,x5,x6,x7,x8,x9,fS,fT,fQ,fR⟩:=fC.out.q;obtain ⟨r0,r1,r2,r3,r4,r5,r6,r7,r8,r9,jU,lM,mI,Ba⟩:=eY.out.q;have rf:=eY.out.f;go_wp2_with fail;change bodyPost _ _ _ _ _ (pts w1 (w.heap.size + 1) (zJ 0 0 0 0 Sl.nil 0 0));have hby:=eY.out.all 0 0 0 0 Sl.nil 0 0;have ey:=zh (zD (B:=w.heap.size) (b:=(w.heap.size + 1)) (by omega) (zJ 0 0 0 0 Sl.nil 0 0) eW.out);have gJ:=lz.out (pts w1 (w.heap.size + 1) (zJ 0 0 0 0 Sl.nil 0 0));rw [iP.out];generalize pts w1 (w.heap.size + 1) (zJ 0 0 0 0 Sl.nil 0 0) = V at *;exact au (v:=.tuple #[zV 0 0 0 0 Sl.nil 0 0,.int .i64 12]) (by simp [results,Tryz.results46,go_sem,hby.q]) rfl ⟨⟨_,rfl,gJ⟩,ey.out⟩
 have iP:=zh (CT.out rfl rj);have e1 : (md == 1) = false:=beq_eq_false_iff_ne.2 rj;clear HG CT;obtain ⟨x0,x1,x2,x3,x4,x5,x6,x7,x8,x9,fS,fT,fQ,fR⟩:=fC.out.q;have xf:=fC.out.f;go_wp2_with fail
 go_loopw [6] (fun iv W => ∃ (i : Nat) (si : Sl),iv = .int .i64 (i : Int) ∧ i ≤ n ∧ Hid (eH W w.heap.size gn rv md z si ((ks.take i).foldl yP M0).live ((ks.take i).foldl yP M0).dZ) ∧ Hid (eR W (w.heap.size + 2) s f si ((ks.take i).foldl yP M0).st) ∧ Hid (eH W (w.heap.size + 1) 0 0 0 0 Sl.nil 0 0) ∧ Hid (Below w.heap.size w W)) (fun iv _ => n - (intOf iv).toNat)
 case atStart => exact ⟨0,s,rfl,aq _,by rw [Ps.out]; exact fC,by rw [Ps.out]; exact zh (eR.refl _ _ _ _),eY,eW⟩
 obtain ⟨i,si,rfl,hi,ru,C9,ja,jw⟩:=hrel;clear fC eY eW
 by_cases hlt : i < n
 ·
  have i1 : (i : Int) < (n : Int):=by omega
  obtain ⟨b,off,rfl,c0⟩:=lJ.at (iw.below iQ.out jw.out) hlt;have Fp:=zh (iL.out i);have Ce:=zh (jM.out i hlt);generalize CB ks i = key at c0 Ce;generalize (ks.take i).foldl yP M0 = Mi at *;obtain ⟨df,dL,dG⟩:=Mi;dsimp only at *;obtain ⟨x4,x5,x6,x7,x8,x9,fS,fT,fQ,fR⟩:=ru.out.q;have HP:=zh (zEX si ⟨df,dL,dG⟩ key wr.drew (C9.out.rd NU.out jw.out |>.below (zy (aj _ _))) Fp.out);go_upto_region 8 with fail;refine wp_region_still_tail 6 (by kernel_rfl) (by kernel_rfl) ?_;simp only [List.take_succ_cons,List.take_zero,List.drop_succ_cons,List.drop_zero];change wpStill Tryz.prog _ (World.drew _) _ _ _
  repeat still_step
  refine wpStill_nil ?_;change wpList _ _ _ _ _ (World.drew _);generalize yP ⟨df,dL,dG⟩ key = M4 at *;obtain ⟨bf,bL,bG⟩:=M4;dsimp only at HP;go_wp2_with fail;refine (HP.out).mono ?_;rintro e w5 ⟨⟨s4,rfl,ho⟩,hb5⟩;replace hb5:=zA (zy (aj wr.heap.size wr)) hb5;have hsz:=hb5.size;have RT:=ja.out.lt;have iV:=zh (C9.out.step ho hb5 (show w.heap.size + 2 ≤ wr.drew.heap.size from RT));have fw:=zh (ru.out.below hb5);have iR:=zh (ja.out.below hb5);have gw:=zh (zA jw.out hb5);clear c0 ru ja jw C9 ho hb5 HP x4 x5 x6 x7 x8 x9 fS fT fQ fR;obtain ⟨x4,x5,x6,x7,x8,x9,fS,fT,fQ,fR⟩:=fw.out.q;have xf:=fw.out.f;go_upto_region 7 with fail;change Code.wp _ _ _ _ (pts w5 w.heap.size (yu s4 bL bG));have ik:=zh (fw.out.map s4 bL bG);have E2:=zh (iR.out.eD (show w.heap.size + 1 ≠ w.heap.size by omega) (yu s4 bL bG))
  have jK:=zh (zD (B:=w.heap.size) (b:=w.heap.size) (ai _) (yu s4 bL bG) gw.out);have mC:=zh (iV.out.pts (show w.heap.size < w.heap.size + 2 by omega) (yu s4 bL bG));generalize pts w5 w.heap.size (yu s4 bL bG) = w6 at *;clear fw iR gw iV xf x4 x5 x6 x7 x8 x9 fS fT fQ fR;go_wp2_with fail
  go_roundw
  case rel =>
   refine ⟨i + 1,s4,by go_num,by omega,?_,?_,E2,jK⟩
   ·
    rw [Ce.out]; exact ik
   rw [Ce.out]; exact mC
  case measure => simp [intOf]; omega
 have hin : i = n:=by omega
 rw [hin,lW.out] at ru C9;rw [hin];clear hin hi;generalize ks.foldl yP M0 = gA at *;obtain ⟨af,aL,aG⟩:=gA;dsimp only at ru C9;obtain ⟨x0,x1,x2,x3,x4,x5,x6,x7,x8,x9,fS,fT,fQ,fR⟩:=ru.out.q;obtain ⟨r0,r1,r2,r3,r4,r5,r6,r7,r8,r9,jU,lM,mI,Ba⟩:=ja.out.q;have rf:=ja.out.f;go_wp2_with fail;change bodyPost _ _ _ _ _ (pts wr (w.heap.size + 1) (zJ gn rv md z si aL aG));have hby:=ja.out.all gn rv md z si aL aG;have ey:=zh (zD (B:=w.heap.size) (b:=(w.heap.size + 1)) (by omega) (zJ gn rv md z si aL aG) jw.out);have gJ:=(C9.out.pts (show w.heap.size + 1 < w.heap.size + 2 by omega) (zJ gn rv md z si aL aG)).mono (show w.heap.size ≤ w.heap.size + 2 by omega);rw [iP.out];generalize pts wr (w.heap.size + 1) (zJ gn rv md z si aL aG) = V at *
 exact au (v:=.tuple #[zV gn rv md z si aL aG,.int .i64 0]) (by simp [results,Tryz.results46,go_sem,hby.q]) rfl ⟨⟨_,rfl,gJ⟩,ey.out⟩
theorem zFF (g : Gn) (s : Sl) (v : Value) (ks : List Int) (w : World) (h : fq w s g.m.st) (hs : ∀ i,i < 8 → (g.m.st i).length ≤ 9000) (hr : lJ w v ks) (hkl : ks.length ≤ 100000) :
  Calls Tryz.prog 29 #[zV g.num g.rev g.mode g.size s g.m.live g.m.dZ,v] w (Kv w (yY g ks)):=by
 obtain ⟨va,vc,rfl,Dk,hv2,_⟩:=hr.shape 0;have H4 : ∀ i,i < 8 → (g.m.st i).length ≤ 10000:=fun i hi => ak (hs i hi) (by omega)
 have HV:=zh (fun W (hb : Below w.heap.size w W) => uF g s W (h.below hb) H4);have iQ:=zh hr;have NU:=zh h;have lz:=zh (show ∀ W,eZ W w.heap.size Sl.nil gY.m.st from fun W => eZ.nil W _);have HW:=zh (fun W (hb : Below w.heap.size w W) => uA s g.m 0 W (h.below hb) H4);rw [uN] at HW;have HG:=zh (show yY g ks = if wM g = true then (if g.mode = 1 then (12,gY) else (0,{ g with m:=ks.foldl yP g.m })) else (1,gY) from rfl);have iL:=zh (fun i => wQ (ks.take i) g.m hs);have jM:=zh (show ∀ i,i < ks.length → (ks.take (i + 1)).foldl yP g.m = yP ((ks.take i).foldl yP g.m) (CB ks i) from fun i hi => by rw [zBW hi,dy]; rfl);have lW:=zh (show ks.take ks.length = ks from cm);clear hr h hs H4;generalize hnn : ks.length = n at *;have Xz:=zh hnn;clear hnn;obtain ⟨gn,rv,md,z,⟨f,L,G⟩⟩:=g;generalize B6 : (⟨gn,rv,md,z,⟨f,L,G⟩⟩ : Gn) = g at *;have XA:=zh B6
 obtain ⟨W,hW,fF,hbr,fP⟩:=vE w gn rv md z s L G 38;have HX:=zh fF;have HR:=zh hbr;have HB:=zh fP;clear fF hbr fP;generalize yY g ks = TG at *;generalize wM g = vb at *;subst B6;dsimp only at *;obtain ⟨M0,LA⟩ : ∃ M0 : Mp,(⟨f,L,G⟩ : Mp) = M0:=⟨_,rfl⟩
 rw [LA] at iL jM;have Ps:=zh (show (ks.take 0).foldl yP M0 = ⟨f,L,G⟩ from LA.symm);have CT:=zh (show vb = true → md ≠ 1 → TG = (0,⟨gn,rv,md,z,ks.foldl yP M0⟩) from fun e1 e2 => by rw [HG.out,ag e1,ah e2,LA]);clear LA
 go_enter Tryz.func29,Tryz.ntmps29
 go_upto_region 1 with fail;change Code.wp _ _ _ _ ((w.alloc (.cells (zQ gn rv md z s L G) 38)).alloc (.cells (zQ 0 0 0 0 Sl.nil 0 0) 38));rw [hW];clear hW;obtain ⟨x0,x1,x2,x3,x4,x5,x6,x7,x8,x9,fS,fT,fQ,fR⟩:=HX.out.q;go_wp2_with fail;refine (HV.out _ HB.out).mono ?_;rintro e w1 ⟨rfl,hb1⟩;have fC:=zh (HX.out.below hb1);have eY:=zh (HR.out.below hb1);have eW:=zh (zA HB.out hb1);have hlr : w.heap.size + 1 < W.heap.size:=HR.out.lt;have Yz:=eY.out.lt;clear x0 x1 x2 x3 x4 x5 x6 x7 x8 x9 fS fT fQ fR;clear hb1 HX HR HB HV
 cases vb
 ·
  have iP:=zh (show TG = (1,gY) by rw [HG.out]; rfl);obtain ⟨r0,r1,r2,r3,r4,r5,r6,r7,r8,r9,jU,lM,mI,Ba⟩:=eY.out.q;have rf:=eY.out.f;go_wp2_with fail;change bodyPost _ _ _ _ _ (pts w1 (w.heap.size + 1) (zJ 0 0 0 0 Sl.nil 0 0));have hby:=eY.out.all 0 0 0 0 Sl.nil 0 0;have ey:=zh (zD (B:=w.heap.size) (b:=(w.heap.size + 1)) (by omega) (zJ 0 0 0 0 Sl.nil 0 0) eW.out);have gJ:=lz.out (pts w1 (w.heap.size + 1) (zJ 0 0 0 0 Sl.nil 0 0));rw [iP.out];generalize pts w1 (w.heap.size + 1) (zJ 0 0 0 0 Sl.nil 0 0) = V at *;exact au (v:=.tuple #[zV 0 0 0 0 Sl.nil 0 0,.int .i64 1]) (by simp [results,Tryz.results29,go_sem,hby.q]) rfl ⟨⟨_,rfl,gJ⟩,ey.out⟩
 by_cases rj : md = 1
 ·
  have iP:=zh (show TG = (12,gY) by rw [HG.out,ag rfl,ag rj]);have e1 : (md == 1) = true:=by rw [rj]; rfl
  clear HG CT;obtain ⟨x0,x1,x2,x3,x4,x5,x6,x7,x8,x9,fS,fT,fQ,fR⟩:=fC.out.q;obtain ⟨r0,r1,r2,r3,r4,r5,r6,r7,r8,r9,jU,lM,mI,Ba⟩:=eY.out.q;have rf:=eY.out.f;go_wp2_with fail;change bodyPost _ _ _ _ _ (pts w1 (w.heap.size + 1) (zJ 0 0 0 0 Sl.nil 0 0));have hby:=eY.out.all 0 0 0 0 Sl.nil 0 0;have ey:=zh (zD (B:=w.heap.size) (b:=(w.heap.size + 1)) (by omega) (zJ 0 0 0 0 Sl.nil 0 0) eW.out);have gJ:=lz.out (pts w1 (w.heap.size + 1) (zJ 0 0 0 0 Sl.nil 0 0));rw [iP.out];generalize pts w1 (w.heap.size + 1) (zJ 0 0 0 0 Sl.nil 0 0) = V at *;exact au (v:=.tuple #[zV 0 0 0 0 Sl.nil 0 0,.int .i64 12]) (by simp [results,Tryz.results29,go_sem,hby.q]) rfl ⟨⟨_,rfl,gJ⟩,ey.out⟩
 have iP:=zh (CT.out rfl rj);have e1 : (md == 1) = false:=beq_eq_false_iff_ne.2 rj;clear HG CT;obtain ⟨x0,x1,x2,x3,x4,x5,x6,x7,x8,x9,fS,fT,fQ,fR⟩:=fC.out.q;have xf:=fC.out.f;go_wp2_with fail;refine (HW.out _ eW.out).mono ?_;rintro e w3 ⟨⟨s3,rfl,CL⟩,hb3⟩;have gP:=zh (fC.out.below hb3);have mo:=zh (eY.out.below hb3);have gp:=zh (zA eW.out hb3);have lr:=zh (CL.mono (show w.heap.size + 2 ≤ w1.heap.size by omega));clear x0 x1 x2 x3 x4 x5 x6 x7 x8 x9 fS fT fQ fR xf;clear hb3 CL fC eY eW HW;obtain ⟨x0,x1,x2,x3,x4,x5,x6,x7,x8,x9,fS,fT,fQ,fR⟩:=gP.out.q;have xf:=gP.out.f;go_upto_region 6 with fail;change Code.wp _ _ _ _ (pts w3 w.heap.size (yu s3 L G));have iM:=zh (gP.out.map s3 L G);have lB:=zh (mo.out.eD (show w.heap.size + 1 ≠ w.heap.size by omega) (yu s3 L G));have fZ:=zh (zD (B:=w.heap.size) (b:=w.heap.size) (ai _) (yu s3 L G) gp.out)
 have jx:=zh (lr.out.pts (show w.heap.size < w.heap.size + 2 by omega) (yu s3 L G));generalize pts w3 w.heap.size (yu s3 L G) = w4 at *;clear x0 x1 x2 x3 x4 x5 x6 x7 x8 x9 fS fT fQ fR xf;clear gP mo gp lr;go_wp2_with fail
 go_loopw [24] (fun iv W => ∃ (i : Nat) (si : Sl),iv = .int .i64 (i : Int) ∧ i ≤ n ∧ Hid (eH W w.heap.size gn rv md z si ((ks.take i).foldl yP M0).live ((ks.take i).foldl yP M0).dZ) ∧ Hid (eZ W (w.heap.size + 2) si ((ks.take i).foldl yP M0).st) ∧ Hid (eH W (w.heap.size + 1) 0 0 0 0 Sl.nil 0 0) ∧ Hid (Below w.heap.size w W)) (fun iv _ => n - (intOf iv).toNat)
 case atStart => exact ⟨0,s3,rfl,aq _,by rw [Ps.out]; exact iM,by rw [Ps.out]; exact jx,lB,fZ⟩
 obtain ⟨i,si,rfl,hi,ru,C9,ja,jw⟩:=hrel;clear iM lB fZ
 by_cases hlt : i < n
 ·
  have i1 : (i : Int) < (n : Int):=by omega
  obtain ⟨b,off,rfl,c0⟩:=lJ.at (iw.below iQ.out jw.out) hlt;have Fp:=zh (iL.out i);have Ce:=zh (jM.out i hlt);generalize CB ks i = key at c0 Ce;generalize (ks.take i).foldl yP M0 = Mi at *;obtain ⟨df,dL,dG⟩:=Mi;dsimp only at *;obtain ⟨x4,x5,x6,x7,x8,x9,fS,fT,fQ,fR⟩:=ru.out.q;have HP:=zh (zAp si ⟨df,dL,dG⟩ key wr C9.out.rd (fun j hj => ak (Fp.out j hj) (by omega)));generalize yP ⟨df,dL,dG⟩ key = M4 at *;obtain ⟨bf,bL,bG⟩:=M4;dsimp only at HP;go_wp2_with fail;refine (HP.out).mono ?_;rintro e w5 ⟨⟨s4,rfl,ho⟩,hb5⟩;have RT:=ja.out.lt;have iV:=zh (ho.mono (show w.heap.size + 2 ≤ wr.heap.size by omega));have fw:=zh (ru.out.below hb5);have iR:=zh (ja.out.below hb5);have gw:=zh (zA jw.out hb5);clear c0 ru ja jw C9 ho hb5 HP x4 x5 x6 x7 x8 x9 fS fT fQ fR;obtain ⟨x4,x5,x6,x7,x8,x9,fS,fT,fQ,fR⟩:=fw.out.q;have xf:=fw.out.f
  go_upto_region 10 with fail;change Code.wp _ _ _ _ (pts w5 w.heap.size (yu s4 bL bG));have ik:=zh (fw.out.map s4 bL bG);have E2:=zh (iR.out.eD (show w.heap.size + 1 ≠ w.heap.size by omega) (yu s4 bL bG));have jK:=zh (zD (B:=w.heap.size) (b:=w.heap.size) (ai _) (yu s4 bL bG) gw.out);have mC:=zh (iV.out.pts (show w.heap.size < w.heap.size + 2 by omega) (yu s4 bL bG));generalize pts w5 w.heap.size (yu s4 bL bG) = w6 at *;clear fw iR gw iV xf x4 x5 x6 x7 x8 x9 fS fT fQ fR;go_wp2_with fail
  go_roundw
  case rel =>
   refine ⟨i + 1,s4,by go_num,by omega,?_,?_,E2,jK⟩
   ·
    rw [Ce.out]; exact ik
   rw [Ce.out]; exact mC
  case measure => simp [intOf]; omega
 have hin : i = n:=by omega
 rw [hin,lW.out] at ru C9;rw [hin];clear hin hi;generalize ks.foldl yP M0 = gA at *;obtain ⟨af,aL,aG⟩:=gA;dsimp only at ru C9;obtain ⟨x0,x1,x2,x3,x4,x5,x6,x7,x8,x9,fS,fT,fQ,fR⟩:=ru.out.q;obtain ⟨r0,r1,r2,r3,r4,r5,r6,r7,r8,r9,jU,lM,mI,Ba⟩:=ja.out.q;have rf:=ja.out.f;go_wp2_with fail;change bodyPost _ _ _ _ _ (pts wr (w.heap.size + 1) (zJ gn rv md z si aL aG));have hby:=ja.out.all gn rv md z si aL aG;have ey:=zh (zD (B:=w.heap.size) (b:=(w.heap.size + 1)) (by omega) (zJ gn rv md z si aL aG) jw.out);have gJ:=(C9.out.pts (show w.heap.size + 1 < w.heap.size + 2 by omega) (zJ gn rv md z si aL aG)).mono (show w.heap.size ≤ w.heap.size + 2 by omega);rw [iP.out];generalize pts wr (w.heap.size + 1) (zJ gn rv md z si aL aG) = V at *
 exact au (v:=.tuple #[zV gn rv md z si aL aG,.int .i64 0]) (by simp [results,Tryz.results29,go_sem,hby.q]) rfl ⟨⟨_,rfl,gJ⟩,ey.out⟩
end Go.Proofs.YtcgfilmmokmdjaaGreat
