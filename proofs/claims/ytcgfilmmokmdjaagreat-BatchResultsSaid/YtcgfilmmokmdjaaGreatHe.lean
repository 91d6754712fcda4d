/- A part of the walk. -/
import Derived.Test.YtcgfilmmokmdjaaGreatHd
import Derived.Test.YtcgfilmmokmdjaaGreatQAG
import Derived.Test.YtcgfilmmokmdjaaGreatQAQ
set_option maxRecDepth 100000
set_option maxHeartbeats 32000000
namespace Go.Proofs.YtcgfilmmokmdjaaGreat
open Go.RowKit
theorem YL {l : List Int} {i : Nat} (h : i < l.length) : l.take (i + 1) = l.take i ++ [oF l i] := by
 unfold oF;rw [cU, aB h, ax, aB h]; rfl
theorem zHy (g : Gn) (s : Sl) (v : Value) (ks : List Int) (w : World) (h : fp w s g.m.st) (hs : ∀ i, i < 8 → (g.m.st i).length ≤ 9000) (hr : lU w v ks) (hkl : ks.length ≤ 100000) :
  Calls Tryz.prog 46 #[za g.num g.rev g.mode g.size s g.m.live g.m.dR, v] w (Lw w s g.m.st (ye g ks)) := by
 obtain ⟨va, vc, rfl, ry, oG, _⟩ := hr.shape 0;have CG : ∀ i, i < 8 → (g.m.st i).length ≤ 10000 := fun i hi => ak (hs i hi) (by omega)
 have HV := zh (fun W (hb : Below w.heap.size w W) => vr g s W (h.below hb) CG);have jP := zh hr;have H7 := zh h;have jO := zh (show ∀ W, eL W w.heap.size s g.m.st Sl.nil fT.m.st from fun W => eL.nil W _ _ _);have HG := zh (show ye g ks = if wB g = true then (if g.mode = 1 then (12, fT) else (0, { g with m := ks.foldl yJ g.m })) else (1, fT) from rfl);have iM := zh (fun i => wI (ks.take i) g.m hs);have jI := zh (show ∀ i, i < ks.length → (ks.take (i + 1)).foldl yJ g.m = yJ ((ks.take i).foldl yJ g.m) (oF ks i) from fun i hi => by rw [YL hi, dg]; rfl);have lR := zh (show ks.take ks.length = ks from ct);clear hr h hs CG;generalize hnn : ks.length = n at *;have Rr := zh hnn;clear hnn;obtain ⟨gn, rv, md, z, ⟨f, L, G⟩⟩ := g;generalize nN : (⟨gn, rv, md, z, ⟨f, L, G⟩⟩ : Gn) = g at *;have Rs := zh nN;obtain ⟨W, hW, fa, f_, fu⟩ := wU w gn rv md z s L G 113;have HX := zh fa;have HR := zh f_
 have HB := zh fu;clear fa f_ fu;generalize ye g ks = TG at *;generalize wB g = vb at *;subst nN;dsimp only at *;obtain ⟨M0, Fe⟩ : ∃ M0 : Mp, (⟨f, L, G⟩ : Mp) = M0 := ⟨_, rfl⟩
 rw [Fe] at iM jI;have JC := zh (show (ks.take 0).foldl yJ M0 = ⟨f, L, G⟩ from Fe.symm);have oW := zh (show vb = true → md ≠ 1 → TG = (0, ⟨gn, rv, md, z, ks.foldl yJ M0⟩) from fun e1 e2 => by rw [HG.out, ag e1, ah e2, Fe]);clear Fe
 go_enter Tryz.func46, Tryz.ntmps46
 go_upto_region 1 with fail;change Code.wp _ _ _ _ ((w.alloc (.cells (zW gn rv md z s L G) 113)).alloc (.cells (zW 0 0 0 0 Sl.nil 0 0) 113));rw [hW];clear hW;obtain ⟨x0, x1, x2, x3, x4, x5, x6, x7, x8, x9, fI, fJ, fG, fH⟩ := HX.out.q;go_wp2_with fail;refine (HV.out _ HB.out).mono ?_;rintro e w1 ⟨rfl, dW⟩;have fk := zh (HX.out.below dW);have eY := zh (HR.out.below dW);have eO := zh (zA HB.out dW);have hlr : w.heap.size + 1 < W.heap.size := HR.out.lt;have Sq := eY.out.lt;clear x0 x1 x2 x3 x4 x5 x6 x7 x8 x9 fI fJ fG fH;clear dW HX HR HB HV
 cases vb
 ·
  have iR := zh (show TG = (1, fT) by rw [HG.out]; rfl);obtain ⟨r0, r1, r2, r3, r4, r5, r6, r7, r8, r9, lK, lq, l6, mO⟩ := eY.out.q;have rf := eY.out.f;go_wp2_with fail;change bodyPost _ _ _ _ _ (pts w1 (w.heap.size + 1) (zL 0 0 0 0 Sl.nil 0 0));have hby := eY.out.all 0 0 0 0 Sl.nil 0 0;have ea := zh (zD (B := w.heap.size) (b := (w.heap.size + 1)) (by omega) (zL 0 0 0 0 Sl.nil 0 0) eO.out);have gw := jO.out (pts w1 (w.heap.size + 1) (zL 0 0 0 0 Sl.nil 0 0));rw [iR.out];generalize pts w1 (w.heap.size + 1) (zL 0 0 0 0 Sl.nil 0 0) = V at *;exact aw (v := .tuple #[za 0 0 0 0 Sl.nil 0 0, .int .i64 1]) (by simp [results, Tryz.results46, go_sem, hby.q]) rfl ⟨⟨_, rfl, gw⟩, ea.out⟩
 by_cases mT : md = 1
 ·
  have iR := zh (show TG = (12, fT) by rw [HG.out, ag rfl, ag mT]);have e1 : (md == 1) = true := by rw [mT]; rfl
  clear HG oW;obtain ⟨x0, x1, x2, x3, x4, x5, x6, x7, x8, x9, fI, fJ, fG, fH⟩ := fk.out.q;obtain ⟨r0, r1, r2, r3, r4, r5, r6, r7, r8, r9, lK, lq, l6, mO⟩ := eY.out.q;have rf := eY.out.f;go_wp2_with fail;change bodyPost _ _ _ _ _ (pts w1 (w.heap.size + 1) (zL 0 0 0 0 Sl.nil 0 0));have hby := eY.out.all 0 0 0 0 Sl.nil 0 0;have ea := zh (zD (B := w.heap.size) (b := (w.heap.size + 1)) (by omega) (zL 0 0 0 0 Sl.nil 0 0) eO.out);have gw := jO.out (pts w1 (w.heap.size + 1) (zL 0 0 0 0 Sl.nil 0 0));rw [iR.out];generalize pts w1 (w.heap.size + 1) (zL 0 0 0 0 Sl.nil 0 0) = V at *;exact aw (v := .tuple #[za 0 0 0 0 Sl.nil 0 0, .int .i64 12]) (by simp [results, Tryz.results46, go_sem, hby.q]) rfl ⟨⟨_, rfl, gw⟩, ea.out⟩
 have iR := zh (oW.out rfl mT);have e1 : (md == 1) = false := beq_eq_false_iff_ne.2 mT;clear HG oW;obtain ⟨x0, x1, x2, x3, x4, x5, x6, x7, x8, x9, fI, fJ, fG, fH⟩ := fk.out.q;have xf := fk.out.f;go_wp2_with fail
 go_loopw [6] (fun iv W => ∃ (i : Nat) (si : Sl), iv = .int .i64 (i : Int) ∧ i ≤ n ∧ Hid (eu W w.heap.size gn rv md z si ((ks.take i).foldl yJ M0).live ((ks.take i).foldl yJ M0).dR) ∧ Hid (eL W (w.heap.size + 2) s f si ((ks.take i).foldl yJ M0).st) ∧ Hid (eu W (w.heap.size + 1) 0 0 0 0 Sl.nil 0 0) ∧ Hid (Below w.heap.size w W)) (fun iv _ => n - (intOf iv).toNat)
 case atStart => exact ⟨0, s, rfl, au _, by rw [JC.out]; exact fk, by rw [JC.out]; exact zh (eL.refl _ _ _ _), eY, eO⟩
 obtain ⟨i, si, rfl, hi, mV, pP, iX, iA⟩ := eT;clear fk eY eO
 by_cases hlt : i < n
 ·
  have i1 : (i : Int) < (n : Int) := by omega
  obtain ⟨b, off, rfl, c0⟩ := lU.at (ik.below jP.out iA.out) hlt;have Bl := zh (iM.out i);have nz := zh (jI.out i hlt);generalize oF ks i = key at c0 nz;generalize (ks.take i).foldl yJ M0 = Mi at *;obtain ⟨df, dL, dG⟩ := Mi;dsimp only at *;obtain ⟨x4, x5, x6, x7, x8, x9, fI, fJ, fG, fH⟩ := mV.out.q;have HP := zh (Xa si ⟨df, dL, dG⟩ key wr.drew (pP.out.rd H7.out iA.out |>.below (zz (aj _ _))) Bl.out);go_upto_region 8 with fail;refine wp_region_still_tail 6 (by kernel_rfl) (by kernel_rfl) ?_;simp only [List.take_succ_cons, List.take_zero, List.drop_succ_cons, List.drop_zero];change wpStill Tryz.prog _ (World.drew _) _ _ _
  repeat still_step
  refine wpStill_nil ?_;change wpList _ _ _ _ _ (World.drew _);generalize yJ ⟨df, dL, dG⟩ key = M4 at *;obtain ⟨bf, bL, bG⟩ := M4;dsimp only at HP;go_wp2_with fail;refine (HP.out).mono ?_;rintro e w5 ⟨⟨s4, rfl, ho⟩, iU⟩;replace iU := zA (zz (aj wr.heap.size wr)) iU;have hsz := iU.size;have L_ := iX.out.lt;have jE := zh (pP.out.step ho iU (show w.heap.size + 2 ≤ wr.drew.heap.size from L_));have fh := zh (mV.out.below iU);have jV := zh (iX.out.below iU);have gj := zh (zA iA.out iU);clear c0 mV iX iA pP ho iU HP x4 x5 x6 x7 x8 x9 fI fJ fG fH;obtain ⟨x4, x5, x6, x7, x8, x9, fI, fJ, fG, fH⟩ := fh.out.q;have xf := fh.out.f;go_upto_region 7 with fail;change Code.wp _ _ _ _ (pts w5 w.heap.size (yp s4 bL bG));have ia := zh (fh.out.map s4 bL bG);have AV := zh (jV.out.ek (show w.heap.size + 1 ≠ w.heap.size by omega) (yp s4 bL bG))
  have jG := zh (zD (B := w.heap.size) (b := w.heap.size) (ai _) (yp s4 bL bG) gj.out);have mh := zh (jE.out.pts (show w.heap.size < w.heap.size + 2 by omega) (yp s4 bL bG));generalize pts w5 w.heap.size (yp s4 bL bG) = w6 at *;clear fh jV gj jE xf x4 x5 x6 x7 x8 x9 fI fJ fG fH;go_wp2_with fail
  go_roundw
  case rel =>
   refine ⟨i + 1, s4, by go_num, by omega, ?_, ?_, AV, jG⟩
   ·
    rw [nz.out]; exact ia
   rw [nz.out]; exact mh
  case measure => simp [intOf]; omega
 have hin : i = n := by omega
 rw [hin, lR.out] at mV pP;rw [hin];clear hin hi;generalize ks.foldl yJ M0 = gA at *;obtain ⟨af, aL, aG⟩ := gA;dsimp only at mV pP;obtain ⟨x0, x1, x2, x3, x4, x5, x6, x7, x8, x9, fI, fJ, fG, fH⟩ := mV.out.q;obtain ⟨r0, r1, r2, r3, r4, r5, r6, r7, r8, r9, lK, lq, l6, mO⟩ := iX.out.q;have rf := iX.out.f;go_wp2_with fail;change bodyPost _ _ _ _ _ (pts wr (w.heap.size + 1) (zL gn rv md z si aL aG));have hby := iX.out.all gn rv md z si aL aG;have ea := zh (zD (B := w.heap.size) (b := (w.heap.size + 1)) (by omega) (zL gn rv md z si aL aG) iA.out);have gw := (pP.out.pts (show w.heap.size + 1 < w.heap.size + 2 by omega) (zL gn rv md z si aL aG)).mono (show w.heap.size ≤ w.heap.size + 2 by omega);rw [iR.out];generalize pts wr (w.heap.size + 1) (zL gn rv md z si aL aG) = V at *
 exact aw (v := .tuple #[za gn rv md z si aL aG, .int .i64 0]) (by simp [results, Tryz.results46, go_sem, hby.q]) rfl ⟨⟨_, rfl, gw⟩, ea.out⟩
theorem zJZ (g : Gn) (s : Sl) (v : Value) (ks : List Int) (w : World) (h : fp w s g.m.st) (hs : ∀ i, i < 8 → (g.m.st i).length ≤ 9000) (hr : lU w v ks) (hkl : ks.length ≤ 100000) :
  Calls Tryz.prog 29 #[za g.num g.rev g.mode g.size s g.m.live g.m.dR, v] w (Hx w (ye g ks)) := by
 obtain ⟨va, vc, rfl, ry, oG, _⟩ := hr.shape 0;have CG : ∀ i, i < 8 → (g.m.st i).length ≤ 10000 := fun i hi => ak (hs i hi) (by omega)
 have HV := zh (fun W (hb : Below w.heap.size w W) => vW g s W (h.below hb) CG);have jP := zh hr;have H7 := zh h;have jO := zh (show ∀ W, eS W w.heap.size Sl.nil fT.m.st from fun W => eS.nil W _);have HW := zh (fun W (hb : Below w.heap.size w W) => vT s g.m 0 W (h.below hb) CG);rw [vj] at HW;have HG := zh (show ye g ks = if wB g = true then (if g.mode = 1 then (12, fT) else (0, { g with m := ks.foldl yJ g.m })) else (1, fT) from rfl);have iM := zh (fun i => wI (ks.take i) g.m hs);have jI := zh (show ∀ i, i < ks.length → (ks.take (i + 1)).foldl yJ g.m = yJ ((ks.take i).foldl yJ g.m) (oF ks i) from fun i hi => by rw [YL hi, dg]; rfl);have lR := zh (show ks.take ks.length = ks from ct);clear hr h hs CG;generalize hnn : ks.length = n at *;have Rr := zh hnn;clear hnn;obtain ⟨gn, rv, md, z, ⟨f, L, G⟩⟩ := g;generalize nN : (⟨gn, rv, md, z, ⟨f, L, G⟩⟩ : Gn) = g at *;have Rs := zh nN
 obtain ⟨W, hW, fa, f_, fu⟩ := wU w gn rv md z s L G 38;have HX := zh fa;have HR := zh f_;have HB := zh fu;clear fa f_ fu;generalize ye g ks = TG at *;generalize wB g = vb at *;subst nN;dsimp only at *;obtain ⟨M0, Fe⟩ : ∃ M0 : Mp, (⟨f, L, G⟩ : Mp) = M0 := ⟨_, rfl⟩
 rw [Fe] at iM jI;have JC := zh (show (ks.take 0).foldl yJ M0 = ⟨f, L, G⟩ from Fe.symm);have oW := zh (show vb = true → md ≠ 1 → TG = (0, ⟨gn, rv, md, z, ks.foldl yJ M0⟩) from fun e1 e2 => by rw [HG.out, ag e1, ah e2, Fe]);clear Fe
 go_enter Tryz.func29, Tryz.ntmps29
 go_upto_region 1 with fail;change Code.wp _ _ _ _ ((w.alloc (.cells (zW gn rv md z s L G) 38)).alloc (.cells (zW 0 0 0 0 Sl.nil 0 0) 38));rw [hW];clear hW;obtain ⟨x0, x1, x2, x3, x4, x5, x6, x7, x8, x9, fI, fJ, fG, fH⟩ := HX.out.q;go_wp2_with fail;refine (HV.out _ HB.out).mono ?_;rintro e w1 ⟨rfl, dW⟩;have fk := zh (HX.out.below dW);have eY := zh (HR.out.below dW);have eO := zh (zA HB.out dW);have hlr : w.heap.size + 1 < W.heap.size := HR.out.lt;have Sq := eY.out.lt;clear x0 x1 x2 x3 x4 x5 x6 x7 x8 x9 fI fJ fG fH;clear dW HX HR HB HV
 cases vb
 ·
  have iR := zh (show TG = (1, fT) by rw [HG.out]; rfl);obtain ⟨r0, r1, r2, r3, r4, r5, r6, r7, r8, r9, lK, lq, l6, mO⟩ := eY.out.q;have rf := eY.out.f;go_wp2_with fail;change bodyPost _ _ _ _ _ (pts w1 (w.heap.size + 1) (zL 0 0 0 0 Sl.nil 0 0));have hby := eY.out.all 0 0 0 0 Sl.nil 0 0;have ea := zh (zD (B := w.heap.size) (b := (w.heap.size + 1)) (by omega) (zL 0 0 0 0 Sl.nil 0 0) eO.out);have gw := jO.out (pts w1 (w.heap.size + 1) (zL 0 0 0 0 Sl.nil 0 0));rw [iR.out];generalize pts w1 (w.heap.size + 1) (zL 0 0 0 0 Sl.nil 0 0) = V at *;exact aw (v := .tuple #[za 0 0 0 0 Sl.nil 0 0, .int .i64 1]) (by simp [results, Tryz.results29, go_sem, hby.q]) rfl ⟨⟨_, rfl, gw⟩, ea.out⟩
 by_cases mT : md = 1
 ·
  have iR := zh (show TG = (12, fT) by rw [HG.out, ag rfl, ag mT]);have e1 : (md == 1) = true := by rw [mT]; rfl
  clear HG oW;obtain ⟨x0, x1, x2, x3, x4, x5, x6, x7, x8, x9, fI, fJ, fG, fH⟩ := fk.out.q;obtain ⟨r0, r1, r2, r3, r4, r5, r6, r7, r8, r9, lK, lq, l6, mO⟩ := eY.out.q;have rf := eY.out.f;go_wp2_with fail;change bodyPost _ _ _ _ _ (pts w1 (w.heap.size + 1) (zL 0 0 0 0 Sl.nil 0 0));have hby := eY.out.all 0 0 0 0 Sl.nil 0 0;have ea := zh (zD (B := w.heap.size) (b := (w.heap.size + 1)) (by omega) (zL 0 0 0 0 Sl.nil 0 0) eO.out);have gw := jO.out (pts w1 (w.heap.size + 1) (zL 0 0 0 0 Sl.nil 0 0));rw [iR.out];generalize pts w1 (w.heap.size + 1) (zL 0 0 0 0 Sl.nil 0 0) = V at *;exact aw (v := .tuple #[za 0 0 0 0 Sl.nil 0 0, .int .i64 12]) (by simp [results, Tryz.results29, go_sem, hby.q]) rfl ⟨⟨_, rfl, gw⟩, ea.out⟩
 have iR := zh (oW.out rfl mT);have e1 : (md == 1) = false := beq_eq_false_iff_ne.2 mT;clear HG oW;obtain ⟨x0, x1, x2, x3, x4, x5, x6, x7, x8, x9, fI, fJ, fG, fH⟩ := fk.out.q;have xf := fk.out.f;go_wp2_with fail;refine (HW.out _ eO.out).mono ?_;rintro e w3 ⟨⟨s3, rfl, oP⟩, eU⟩;have gJ := zh (fk.out.below eU);have me := zh (eY.out.below eU);have fS := zh (zA eO.out eU);have lz := zh (oP.mono (show w.heap.size + 2 ≤ w1.heap.size by omega));clear x0 x1 x2 x3 x4 x5 x6 x7 x8 x9 fI fJ fG fH xf;clear eU oP fk eY eO HW;obtain ⟨x0, x1, x2, x3, x4, x5, x6, x7, x8, x9, fI, fJ, fG, fH⟩ := gJ.out.q;have xf := gJ.out.f;go_upto_region 6 with fail;change Code.wp _ _ _ _ (pts w3 w.heap.size (yp s3 L G));have gZ := zh (gJ.out.map s3 L G);have jF := zh (me.out.ek (show w.heap.size + 1 ≠ w.heap.size by omega) (yp s3 L G));have fM := zh (zD (B := w.heap.size) (b := w.heap.size) (ai _) (yp s3 L G) fS.out)
 have iy := zh (lz.out.pts (show w.heap.size < w.heap.size + 2 by omega) (yp s3 L G));generalize pts w3 w.heap.size (yp s3 L G) = w4 at *;clear x0 x1 x2 x3 x4 x5 x6 x7 x8 x9 fI fJ fG fH xf;clear gJ me fS lz;go_wp2_with fail
 go_loopw [24] (fun iv W => ∃ (i : Nat) (si : Sl), iv = .int .i64 (i : Int) ∧ i ≤ n ∧ Hid (eu W w.heap.size gn rv md z si ((ks.take i).foldl yJ M0).live ((ks.take i).foldl yJ M0).dR) ∧ Hid (eS W (w.heap.size + 2) si ((ks.take i).foldl yJ M0).st) ∧ Hid (eu W (w.heap.size + 1) 0 0 0 0 Sl.nil 0 0) ∧ Hid (Below w.heap.size w W)) (fun iv _ => n - (intOf iv).toNat)
 case atStart => exact ⟨0, s3, rfl, au _, by rw [JC.out]; exact gZ, by rw [JC.out]; exact iy, jF, fM⟩
 obtain ⟨i, si, rfl, hi, mV, pP, iX, iA⟩ := eT;clear gZ jF fM
 by_cases hlt : i < n
 ·
  have i1 : (i : Int) < (n : Int) := by omega
  obtain ⟨b, off, rfl, c0⟩ := lU.at (ik.below jP.out iA.out) hlt;have Bl := zh (iM.out i);have nz := zh (jI.out i hlt);generalize oF ks i = key at c0 nz;generalize (ks.take i).foldl yJ M0 = Mi at *;obtain ⟨df, dL, dG⟩ := Mi;dsimp only at *;obtain ⟨x4, x5, x6, x7, x8, x9, fI, fJ, fG, fH⟩ := mV.out.q;have HP := zh (Wm si ⟨df, dL, dG⟩ key wr pP.out.rd (fun j hj => ak (Bl.out j hj) (by omega)));generalize yJ ⟨df, dL, dG⟩ key = M4 at *;obtain ⟨bf, bL, bG⟩ := M4;dsimp only at HP;go_wp2_with fail;refine (HP.out).mono ?_;rintro e w5 ⟨⟨s4, rfl, ho⟩, iU⟩;have L_ := iX.out.lt;have jE := zh (ho.mono (show w.heap.size + 2 ≤ wr.heap.size by omega));have fh := zh (mV.out.below iU);have jV := zh (iX.out.below iU);have gj := zh (zA iA.out iU);clear c0 mV iX iA pP ho iU HP x4 x5 x6 x7 x8 x9 fI fJ fG fH;obtain ⟨x4, x5, x6, x7, x8, x9, fI, fJ, fG, fH⟩ := fh.out.q;have xf := fh.out.f
  go_upto_region 10 with fail;change Code.wp _ _ _ _ (pts w5 w.heap.size (yp s4 bL bG));have ia := zh (fh.out.map s4 bL bG);have AV := zh (jV.out.ek (show w.heap.size + 1 ≠ w.heap.size by omega) (yp s4 bL bG));have jG := zh (zD (B := w.heap.size) (b := w.heap.size) (ai _) (yp s4 bL bG) gj.out);have mh := zh (jE.out.pts (show w.heap.size < w.heap.size + 2 by omega) (yp s4 bL bG));generalize pts w5 w.heap.size (yp s4 bL bG) = w6 at *;clear fh jV gj jE xf x4 x5 x6 x7 x8 x9 fI fJ fG fH;go_wp2_with fail
  go_roundw
  case rel =>
   refine ⟨i + 1, s4, by go_num, by omega, ?_, ?_, AV, jG⟩
   ·
    rw [nz.out]; exact ia
   rw [nz.out]; exact mh
  case measure => simp [intOf]; omega
 have hin : i = n := by omega
 rw [hin, lR.out] at mV pP;rw [hin];clear hin hi;generalize ks.foldl yJ M0 = gA at *;obtain ⟨af, aL, aG⟩ := gA;dsimp only at mV pP;obtain ⟨x0, x1, x2, x3, x4, x5, x6, x7, x8, x9, fI, fJ, fG, fH⟩ := mV.out.q;obtain ⟨r0, r1, r2, r3, r4, r5, r6, r7, r8, r9, lK, lq, l6, mO⟩ := iX.out.q;have rf := iX.out.f;go_wp2_with fail;change bodyPost _ _ _ _ _ (pts wr (w.heap.size + 1) (zL gn rv md z si aL aG));have hby := iX.out.all gn rv md z si aL aG;have ea := zh (zD (B := w.heap.size) (b := (w.heap.size + 1)) (by omega) (zL gn rv md z si aL aG) iA.out);have gw := (pP.out.pts (show w.heap.size + 1 < w.heap.size + 2 by omega) (zL gn rv md z si aL aG)).mono (show w.heap.size ≤ w.heap.size + 2 by omega);rw [iR.out];generalize pts wr (w.heap.size + 1) (zL gn rv md z si aL aG) = V at *
 exact aw (v := .tuple #[za gn rv md z si aL aG, .int .i64 0]) (by simp [results, Tryz.results29, go_sem, hby.q]) rfl ⟨⟨_, rfl, gw⟩, ea.out⟩
end Go.Proofs.YtcgfilmmokmdjaaGreat
