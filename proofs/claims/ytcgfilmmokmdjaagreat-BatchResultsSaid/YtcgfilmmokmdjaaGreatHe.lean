/- A part of the walk. -/
import Derived.Test.YtcgfilmmokmdjaaGreatHd
import Derived.Test.YtcgfilmmokmdjaaGreatQAG
import Derived.Test.YtcgfilmmokmdjaaGreatQAQ
set_option linter.all false
set_option maxRecDepth 100000
set_option maxHeartbeats 32000000
namespace Go.Proofs.YtcgfilmmokmdjaaGreat
open Go.RowKit
theorem Yq {l : List Int} {i : Nat} (h : i < l.length) : l.take (i + 1) = l.take i ++ [oJ l i] := by
 unfold oJ;rw [cV, aB h, ax, aB h]; rfl
theorem zHy (g : Gn) (s : Sl) (v : Value) (ks : List Int) (w : World) (h : fw w s g.m.st) (hs : ∀ i, i < 8 → (g.m.st i).length ≤ 9000) (hr : lX w v ks) (hkl : ks.length ≤ 100000) :
  Calls Tryz.prog 46 #[za g.num g.rev g.mode g.size s g.m.live g.m.dW, v] w (K9 w s g.m.st (ye g ks)) := by
 obtain ⟨va, vc, rfl, rB, hv2, _⟩ := hr.shape 0;have Cz : ∀ i, i < 8 → (g.m.st i).length ≤ 10000 := fun i hi => ak (hs i hi) (by omega)
 have HV := zh (fun W (hb : Below w.heap.size w W) => vr g s W (h.below hb) Cz);have jP := zh hr;have G9 := zh h;have jO := zh (show ∀ W, eO W w.heap.size s g.m.st Sl.nil fW.m.st from fun W => eO.nil W _ _ _);have HG := zh (show ye g ks = if wB g = true then (if g.mode = 1 then (12, fW) else (0, { g with m := ks.foldl yJ g.m })) else (1, fW) from rfl);have iN := zh (fun i => wI (ks.take i) g.m hs);have jI := zh (show ∀ i, i < ks.length → (ks.take (i + 1)).foldl yJ g.m = yJ ((ks.take i).foldl yJ g.m) (oJ ks i) from fun i hi => by rw [Yq hi, dt]; rfl);have lU := zh (show ks.take ks.length = ks from ct);clear hr h hs Cz;generalize hnn : ks.length = n at *;have QZ := zh hnn;clear hnn;obtain ⟨gn, rv, md, z, ⟨f, L, G⟩⟩ := g;generalize nP : (⟨gn, rv, md, z, ⟨f, L, G⟩⟩ : Gn) = g at *;have Q0 := zh nP;obtain ⟨W, hW, fc, hbr, fB⟩ := wU w gn rv md z s L G 113;have HX := zh fc;have HR := zh hbr
 have HB := zh fB;clear fc hbr fB;generalize ye g ks = TG at *;generalize wB g = vb at *;subst nP;dsimp only at *;obtain ⟨M0, E7⟩ : ∃ M0 : Mp, (⟨f, L, G⟩ : Mp) = M0 := ⟨_, rfl⟩
 rw [E7] at iN jI;have Jm := zh (show (ks.take 0).foldl yJ M0 = ⟨f, L, G⟩ from E7.symm);have o6 := zh (show vb = true → md ≠ 1 → TG = (0, ⟨gn, rv, md, z, ks.foldl yJ M0⟩) from fun e1 e2 => by rw [HG.out, ag e1, ah e2, E7]);clear E7
 go_enter Tryz.func46, Tryz.ntmps46
 go_upto_region 1 with fail;change Code.wp _ _ _ _ ((w.alloc (.cells (zW gn rv md z s L G) 113)).alloc (.cells (zW 0 0 0 0 Sl.nil 0 0) 113));rw [hW];clear hW;obtain ⟨x0, x1, x2, x3, x4, x5, x6, x7, x8, x9, fM, fN, fK, fL⟩ := HX.out.q;go_wp2_with fail;refine (HV.out _ HB.out).mono ?_;rintro e w1 ⟨rfl, hb1⟩;have fp := zh (HX.out.below hb1);have eY := zh (HR.out.below hb1);have eQ := zh (zA HB.out hb1);have hlr : w.heap.size + 1 < W.heap.size := HR.out.lt;have RZ := eY.out.lt;clear x0 x1 x2 x3 x4 x5 x6 x7 x8 x9 fM fN fK fL;clear hb1 HX HR HB HV
 cases vb
 ·
  have iT := zh (show TG = (1, fW) by rw [HG.out]; rfl);obtain ⟨r0, r1, r2, r3, r4, r5, r6, r7, r8, r9, lM, lr, l7, mP⟩ := eY.out.q;have rf := eY.out.f;go_wp2_with fail;change bodyPost _ _ _ _ _ (pts w1 (w.heap.size + 1) (zL 0 0 0 0 Sl.nil 0 0));have hby := eY.out.all 0 0 0 0 Sl.nil 0 0;have ek := zh (zD (B := w.heap.size) (b := (w.heap.size + 1)) (by omega) (zL 0 0 0 0 Sl.nil 0 0) eQ.out);have gB := jO.out (pts w1 (w.heap.size + 1) (zL 0 0 0 0 Sl.nil 0 0));rw [iT.out];generalize pts w1 (w.heap.size + 1) (zL 0 0 0 0 Sl.nil 0 0) = V at *;exact aw (v := .tuple #[za 0 0 0 0 Sl.nil 0 0, .int .i64 1]) (by simp [results, Tryz.results46, go_sem, hby.q]) rfl ⟨⟨_, rfl, gB⟩, ek.out⟩
 by_cases mV : md = 1
 ·
  have iT := zh (show TG = (12, fW) by rw [HG.out, ag rfl, ag mV]);have e1 : (md == 1) = true := by rw [mV]; rfl
  clear HG o6;obtain ⟨x0, x1, x2, x3, x4, x5, x6, x7, x8, x9, fM, fN, fK, fL⟩ := fp.out.q;obtain ⟨r0, r1, r2, r3, r4, r5, r6, r7, r8, r9, lM, lr, l7, mP⟩ := eY.out.q;have rf := eY.out.f;go_wp2_with fail;change bodyPost _ _ _ _ _ (pts w1 (w.heap.size + 1) (zL 0 0 0 0 Sl.nil 0 0));have hby := eY.out.all 0 0 0 0 Sl.nil 0 0;have ek := zh (zD (B := w.heap.size) (b := (w.heap.size + 1)) (by omega) (zL 0 0 0 0 Sl.nil 0 0) eQ.out);have gB := jO.out (pts w1 (w.heap.size + 1) (zL 0 0 0 0 Sl.nil 0 0));rw [iT.out];generalize pts w1 (w.heap.size + 1) (zL 0 0 0 0 Sl.nil 0 0) = V at *;exact aw (v := .tuple #[za 0 0 0 0 Sl.nil 0 0, .int .i64 12]) (by simp [results, Tryz.results46, go_sem, hby.q]) rfl ⟨⟨_, rfl, gB⟩, ek.out⟩
 have iT := zh (o6.out rfl mV);have e1 : (md == 1) = false := beq_eq_false_iff_ne.2 mV;clear HG o6;obtain ⟨x0, x1, x2, x3, x4, x5, x6, x7, x8, x9, fM, fN, fK, fL⟩ := fp.out.q;have xf := fp.out.f;go_wp2_with fail
 go_loopw [6] (fun iv W => ∃ (i : Nat) (si : Sl), iv = .int .i64 (i : Int) ∧ i ≤ n ∧ Hid (eA W w.heap.size gn rv md z si ((ks.take i).foldl yJ M0).live ((ks.take i).foldl yJ M0).dW) ∧ Hid (eO W (w.heap.size + 2) s f si ((ks.take i).foldl yJ M0).st) ∧ Hid (eA W (w.heap.size + 1) 0 0 0 0 Sl.nil 0 0) ∧ Hid (Below w.heap.size w W)) (fun iv _ => n - (intOf iv).toNat)
 case atStart => exact ⟨0, s, rfl, au _, by rw [Jm.out]; exact fp, by rw [Jm.out]; exact zh (eO.refl _ _ _ _), eY, eQ⟩
 obtain ⟨i, si, rfl, hi, mX, pV, iX, iD⟩ := hrel;clear fp eY eQ
 by_cases hlt : i < n
 ·
  have i1 : (i : Int) < (n : Int) := by omega
  obtain ⟨b, off, rfl, c0⟩ := lX.at (iw.below jP.out iD.out) hlt;have Bj := zh (iN.out i);have nB := zh (jI.out i hlt);generalize oJ ks i = key at c0 nB;generalize (ks.take i).foldl yJ M0 = Mi at *;obtain ⟨df, dL, dG⟩ := Mi;dsimp only at *;obtain ⟨x4, x5, x6, x7, x8, x9, fM, fN, fK, fL⟩ := mX.out.q;have HP := zh (WO si ⟨df, dL, dG⟩ key wr.drew (pV.out.rd G9.out iD.out |>.below (zz (aj _ _))) Bj.out);go_upto_region 8 with fail;refine wp_region_still_tail 6 (by kernel_rfl) (by kernel_rfl) ?_;simp only [List.take_succ_cons, List.take_zero, List.drop_succ_cons, List.drop_zero];change wpStill Tryz.prog _ (World.drew _) _ _ _
  repeat still_step
  refine wpStill_nil ?_;change wpList _ _ _ _ _ (World.drew _);generalize yJ ⟨df, dL, dG⟩ key = M4 at *;obtain ⟨bf, bL, bG⟩ := M4;dsimp only at HP;go_wp2_with fail;refine (HP.out).mono ?_;rintro e w5 ⟨⟨s4, rfl, ho⟩, hb5⟩;replace hb5 := zA (zz (aj wr.heap.size wr)) hb5;have hsz := hb5.size;have LG := iX.out.lt;have jE := zh (pV.out.step ho hb5 (show w.heap.size + 2 ≤ wr.drew.heap.size from LG));have fk := zh (mX.out.below hb5);have jV := zh (iX.out.below hb5);have gp := zh (zA iD.out hb5);clear c0 mX iX iD pV ho hb5 HP x4 x5 x6 x7 x8 x9 fM fN fK fL;obtain ⟨x4, x5, x6, x7, x8, x9, fM, fN, fK, fL⟩ := fk.out.q;have xf := fk.out.f;go_upto_region 7 with fail;change Code.wp _ _ _ _ (pts w5 w.heap.size (yp s4 bL bG));have ik := zh (fk.out.map s4 bL bG);have AV := zh (jV.out.eu (show w.heap.size + 1 ≠ w.heap.size by omega) (yp s4 bL bG))
  have jG := zh (zD (B := w.heap.size) (b := w.heap.size) (ai _) (yp s4 bL bG) gp.out);have mo := zh (jE.out.pts (show w.heap.size < w.heap.size + 2 by omega) (yp s4 bL bG));generalize pts w5 w.heap.size (yp s4 bL bG) = w6 at *;clear fk jV gp jE xf x4 x5 x6 x7 x8 x9 fM fN fK fL;go_wp2_with fail
  go_roundw
  case rel =>
   refine ⟨i + 1, s4, by go_num, by omega, ?_, ?_, AV, jG⟩
   ·
    rw [nB.out]; exact ik
   rw [nB.out]; exact mo
  case measure => simp [intOf]; omega
 have hin : i = n := by omega
 rw [hin, lU.out] at mX pV;rw [hin];clear hin hi;generalize ks.foldl yJ M0 = gA at *;obtain ⟨af, aL, aG⟩ := gA;dsimp only at mX pV;obtain ⟨x0, x1, x2, x3, x4, x5, x6, x7, x8, x9, fM, fN, fK, fL⟩ := mX.out.q;obtain ⟨r0, r1, r2, r3, r4, r5, r6, r7, r8, r9, lM, lr, l7, mP⟩ := iX.out.q;have rf := iX.out.f;go_wp2_with fail;change bodyPost _ _ _ _ _ (pts wr (w.heap.size + 1) (zL gn rv md z si aL aG));have hby := iX.out.all gn rv md z si aL aG;have ek := zh (zD (B := w.heap.size) (b := (w.heap.size + 1)) (by omega) (zL gn rv md z si aL aG) iD.out);have gB := (pV.out.pts (show w.heap.size + 1 < w.heap.size + 2 by omega) (zL gn rv md z si aL aG)).mono (show w.heap.size ≤ w.heap.size + 2 by omega);rw [iT.out];generalize pts wr (w.heap.size + 1) (zL gn rv md z si aL aG) = V at *
 exact aw (v := .tuple #[za gn rv md z si aL aG, .int .i64 0]) (by simp [results, Tryz.results46, go_sem, hby.q]) rfl ⟨⟨_, rfl, gB⟩, ek.out⟩
theorem zJZ (g : Gn) (s : Sl) (v : Value) (ks : List Int) (w : World) (h : fw w s g.m.st) (hs : ∀ i, i < 8 → (g.m.st i).length ≤ 9000) (hr : lX w v ks) (hkl : ks.length ≤ 100000) :
  Calls Tryz.prog 29 #[za g.num g.rev g.mode g.size s g.m.live g.m.dW, v] w (G4 w (ye g ks)) := by
 obtain ⟨va, vc, rfl, rB, hv2, _⟩ := hr.shape 0;have Cz : ∀ i, i < 8 → (g.m.st i).length ≤ 10000 := fun i hi => ak (hs i hi) (by omega)
 have HV := zh (fun W (hb : Below w.heap.size w W) => vW g s W (h.below hb) Cz);have jP := zh hr;have G9 := zh h;have jO := zh (show ∀ W, eU W w.heap.size Sl.nil fW.m.st from fun W => eU.nil W _);have HW := zh (fun W (hb : Below w.heap.size w W) => vT s g.m 0 W (h.below hb) Cz);rw [vj] at HW;have HG := zh (show ye g ks = if wB g = true then (if g.mode = 1 then (12, fW) else (0, { g with m := ks.foldl yJ g.m })) else (1, fW) from rfl);have iN := zh (fun i => wI (ks.take i) g.m hs);have jI := zh (show ∀ i, i < ks.length → (ks.take (i + 1)).foldl yJ g.m = yJ ((ks.take i).foldl yJ g.m) (oJ ks i) from fun i hi => by rw [Yq hi, dt]; rfl);have lU := zh (show ks.take ks.length = ks from ct);clear hr h hs Cz;generalize hnn : ks.length = n at *;have QZ := zh hnn;clear hnn;obtain ⟨gn, rv, md, z, ⟨f, L, G⟩⟩ := g;generalize nP : (⟨gn, rv, md, z, ⟨f, L, G⟩⟩ : Gn) = g at *;have Q0 := zh nP
 obtain ⟨W, hW, fc, hbr, fB⟩ := wU w gn rv md z s L G 38;have HX := zh fc;have HR := zh hbr;have HB := zh fB;clear fc hbr fB;generalize ye g ks = TG at *;generalize wB g = vb at *;subst nP;dsimp only at *;obtain ⟨M0, E7⟩ : ∃ M0 : Mp, (⟨f, L, G⟩ : Mp) = M0 := ⟨_, rfl⟩
 rw [E7] at iN jI;have Jm := zh (show (ks.take 0).foldl yJ M0 = ⟨f, L, G⟩ from E7.symm);have o6 := zh (show vb = true → md ≠ 1 → TG = (0, ⟨gn, rv, md, z, ks.foldl yJ M0⟩) from fun e1 e2 => by rw [HG.out, ag e1, ah e2, E7]);clear E7
 go_enter Tryz.func29, Tryz.ntmps29
 go_upto_region 1 with fail;change Code.wp _ _ _ _ ((w.alloc (.cells (zW gn rv md z s L G) 38)).alloc (.cells (zW 0 0 0 0 Sl.nil 0 0) 38));rw [hW];clear hW;obtain ⟨x0, x1, x2, x3, x4, x5, x6, x7, x8, x9, fM, fN, fK, fL⟩ := HX.out.q;go_wp2_with fail;refine (HV.out _ HB.out).mono ?_;rintro e w1 ⟨rfl, hb1⟩;have fp := zh (HX.out.below hb1);have eY := zh (HR.out.below hb1);have eQ := zh (zA HB.out hb1);have hlr : w.heap.size + 1 < W.heap.size := HR.out.lt;have RZ := eY.out.lt;clear x0 x1 x2 x3 x4 x5 x6 x7 x8 x9 fM fN fK fL;clear hb1 HX HR HB HV
 cases vb
 ·
  have iT := zh (show TG = (1, fW) by rw [HG.out]; rfl);obtain ⟨r0, r1, r2, r3, r4, r5, r6, r7, r8, r9, lM, lr, l7, mP⟩ := eY.out.q;have rf := eY.out.f;go_wp2_with fail;change bodyPost _ _ _ _ _ (pts w1 (w.heap.size + 1) (zL 0 0 0 0 Sl.nil 0 0));have hby := eY.out.all 0 0 0 0 Sl.nil 0 0;have ek := zh (zD (B := w.heap.size) (b := (w.heap.size + 1)) (by omega) (zL 0 0 0 0 Sl.nil 0 0) eQ.out);have gB := jO.out (pts w1 (w.heap.size + 1) (zL 0 0 0 0 Sl.nil 0 0));rw [iT.out];generalize pts w1 (w.heap.size + 1) (zL 0 0 0 0 Sl.nil 0 0) = V at *;exact aw (v := .tuple #[za 0 0 0 0 Sl.nil 0 0, .int .i64 1]) (by simp [results, Tryz.results29, go_sem, hby.q]) rfl ⟨⟨_, rfl, gB⟩, ek.out⟩
 by_cases mV : md = 1
 ·
  have iT := zh (show TG = (12, fW) by rw [HG.out, ag rfl, ag mV]);have e1 : (md == 1) = true := by rw [mV]; rfl
  clear HG o6;obtain ⟨x0, x1, x2, x3, x4, x5, x6, x7, x8, x9, fM, fN, fK, fL⟩ := fp.out.q;obtain ⟨r0, r1, r2, r3, r4, r5, r6, r7, r8, r9, lM, lr, l7, mP⟩ := eY.out.q;have rf := eY.out.f;go_wp2_with fail;change bodyPost _ _ _ _ _ (pts w1 (w.heap.size + 1) (zL 0 0 0 0 Sl.nil 0 0));have hby := eY.out.all 0 0 0 0 Sl.nil 0 0;have ek := zh (zD (B := w.heap.size) (b := (w.heap.size + 1)) (by omega) (zL 0 0 0 0 Sl.nil 0 0) eQ.out);have gB := jO.out (pts w1 (w.heap.size + 1) (zL 0 0 0 0 Sl.nil 0 0));rw [iT.out];generalize pts w1 (w.heap.size + 1) (zL 0 0 0 0 Sl.nil 0 0) = V at *;exact aw (v := .tuple #[za 0 0 0 0 Sl.nil 0 0, .int .i64 12]) (by simp [results, Tryz.results29, go_sem, hby.q]) rfl ⟨⟨_, rfl, gB⟩, ek.out⟩
 have iT := zh (o6.out rfl mV);have e1 : (md == 1) = false := beq_eq_false_iff_ne.2 mV;clear HG o6;obtain ⟨x0, x1, x2, x3, x4, x5, x6, x7, x8, x9, fM, fN, fK, fL⟩ := fp.out.q;have xf := fp.out.f;go_wp2_with fail;refine (HW.out _ eQ.out).mono ?_;rintro e w3 ⟨⟨s3, rfl, oT⟩, hb3⟩;have gO := zh (fp.out.below hb3);have mh := zh (eY.out.below hb3);have fV := zh (zA eQ.out hb3);have lB := zh (oT.mono (show w.heap.size + 2 ≤ w1.heap.size by omega));clear x0 x1 x2 x3 x4 x5 x6 x7 x8 x9 fM fN fK fL xf;clear hb3 oT fp eY eQ HW;obtain ⟨x0, x1, x2, x3, x4, x5, x6, x7, x8, x9, fM, fN, fK, fL⟩ := gO.out.q;have xf := gO.out.f;go_upto_region 6 with fail;change Code.wp _ _ _ _ (pts w3 w.heap.size (yp s3 L G));have ia := zh (gO.out.map s3 L G);have jF := zh (mh.out.eu (show w.heap.size + 1 ≠ w.heap.size by omega) (yp s3 L G));have fQ := zh (zD (B := w.heap.size) (b := w.heap.size) (ai _) (yp s3 L G) fV.out)
 have iB := zh (lB.out.pts (show w.heap.size < w.heap.size + 2 by omega) (yp s3 L G));generalize pts w3 w.heap.size (yp s3 L G) = w4 at *;clear x0 x1 x2 x3 x4 x5 x6 x7 x8 x9 fM fN fK fL xf;clear gO mh fV lB;go_wp2_with fail
 go_loopw [24] (fun iv W => ∃ (i : Nat) (si : Sl), iv = .int .i64 (i : Int) ∧ i ≤ n ∧ Hid (eA W w.heap.size gn rv md z si ((ks.take i).foldl yJ M0).live ((ks.take i).foldl yJ M0).dW) ∧ Hid (eU W (w.heap.size + 2) si ((ks.take i).foldl yJ M0).st) ∧ Hid (eA W (w.heap.size + 1) 0 0 0 0 Sl.nil 0 0) ∧ Hid (Below w.heap.size w W)) (fun iv _ => n - (intOf iv).toNat)
 case atStart => exact ⟨0, s3, rfl, au _, by rw [Jm.out]; exact ia, by rw [Jm.out]; exact iB, jF, fQ⟩
 obtain ⟨i, si, rfl, hi, mX, pV, iX, iD⟩ := hrel;clear ia jF fQ
 by_cases hlt : i < n
 ·
  have i1 : (i : Int) < (n : Int) := by omega
  obtain ⟨b, off, rfl, c0⟩ := lX.at (iw.below jP.out iD.out) hlt;have Bj := zh (iN.out i);have nB := zh (jI.out i hlt);generalize oJ ks i = key at c0 nB;generalize (ks.take i).foldl yJ M0 = Mi at *;obtain ⟨df, dL, dG⟩ := Mi;dsimp only at *;obtain ⟨x4, x5, x6, x7, x8, x9, fM, fN, fK, fL⟩ := mX.out.q;have HP := zh (VU si ⟨df, dL, dG⟩ key wr pV.out.rd (fun j hj => ak (Bj.out j hj) (by omega)));generalize yJ ⟨df, dL, dG⟩ key = M4 at *;obtain ⟨bf, bL, bG⟩ := M4;dsimp only at HP;go_wp2_with fail;refine (HP.out).mono ?_;rintro e w5 ⟨⟨s4, rfl, ho⟩, hb5⟩;have LG := iX.out.lt;have jE := zh (ho.mono (show w.heap.size + 2 ≤ wr.heap.size by omega));have fk := zh (mX.out.below hb5);have jV := zh (iX.out.below hb5);have gp := zh (zA iD.out hb5);clear c0 mX iX iD pV ho hb5 HP x4 x5 x6 x7 x8 x9 fM fN fK fL;obtain ⟨x4, x5, x6, x7, x8, x9, fM, fN, fK, fL⟩ := fk.out.q;have xf := fk.out.f
  go_upto_region 10 with fail;change Code.wp _ _ _ _ (pts w5 w.heap.size (yp s4 bL bG));have ik := zh (fk.out.map s4 bL bG);have AV := zh (jV.out.eu (show w.heap.size + 1 ≠ w.heap.size by omega) (yp s4 bL bG));have jG := zh (zD (B := w.heap.size) (b := w.heap.size) (ai _) (yp s4 bL bG) gp.out);have mo := zh (jE.out.pts (show w.heap.size < w.heap.size + 2 by omega) (yp s4 bL bG));generalize pts w5 w.heap.size (yp s4 bL bG) = w6 at *;clear fk jV gp jE xf x4 x5 x6 x7 x8 x9 fM fN fK fL;go_wp2_with fail
  go_roundw
  case rel =>
   refine ⟨i + 1, s4, by go_num, by omega, ?_, ?_, AV, jG⟩
   ·
    rw [nB.out]; exact ik
   rw [nB.out]; exact mo
  case measure => simp [intOf]; omega
 have hin : i = n := by omega
 rw [hin, lU.out] at mX pV;rw [hin];clear hin hi;generalize ks.foldl yJ M0 = gA at *;obtain ⟨af, aL, aG⟩ := gA;dsimp only at mX pV;obtain ⟨x0, x1, x2, x3, x4, x5, x6, x7, x8, x9, fM, fN, fK, fL⟩ := mX.out.q;obtain ⟨r0, r1, r2, r3, r4, r5, r6, r7, r8, r9, lM, lr, l7, mP⟩ := iX.out.q;have rf := iX.out.f;go_wp2_with fail;change bodyPost _ _ _ _ _ (pts wr (w.heap.size + 1) (zL gn rv md z si aL aG));have hby := iX.out.all gn rv md z si aL aG;have ek := zh (zD (B := w.heap.size) (b := (w.heap.size + 1)) (by omega) (zL gn rv md z si aL aG) iD.out);have gB := (pV.out.pts (show w.heap.size + 1 < w.heap.size + 2 by omega) (zL gn rv md z si aL aG)).mono (show w.heap.size ≤ w.heap.size + 2 by omega);rw [iT.out];generalize pts wr (w.heap.size + 1) (zL gn rv md z si aL aG) = V at *
 exact aw (v := .tuple #[za gn rv md z si aL aG, .int .i64 0]) (by simp [results, Tryz.results29, go_sem, hby.q]) rfl ⟨⟨_, rfl, gB⟩, ek.out⟩
end Go.Proofs.YtcgfilmmokmdjaaGreat
