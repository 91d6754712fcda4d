/- A part of the walk. -/
import Derived.Test.YtcgfilmmokmdjaaGreatQAU
import Derived.Deep.CutBlock
set_option linter.all false
set_option maxRecDepth 100000
set_option maxHeartbeats 32000000
namespace Go.Proofs.YtcgfilmmokmdjaaGreat
open Go.RowKit
theorem zHV {w : World} {B b : Nat} {P : fh} {ga : Option Addr} {gn gc : Nat} {L : List GP} {kv : Value} {ks : List KP} {nv : Value} {es : List (Nd × Value)} {rv : Value} (hlo : B ≤ b) (hP : oL w b P.t.id P.t.lim P.t.ro ga gn gc P.ey kv nv rv P.bytes) (hR : lF w B P ga gn gc L kv ks nv es rv) (hl : eV 800 P.t.dU) (hB : B ≤ w.heap.size) (hel : es.length ≤ 900) (hby : 0 ≤ P.bytes ∧ P.bytes ≤ 1000000000) (M : Nat) (hM : M ≤ 100000) (hsk : nS M P.ep) (nH : P.t.dU.length ≤ 1000000) (q : Rq) (tk kind key ck : Int) (da : Option Addr) (dn dc : Nat) (hd : oH w (.slice da dn dc) q.data) (iz : dn ≤ 1000000) (Ta : P.res.length ≤ 16) (ZM : q.kind = kind) (CJ : (q.key : Int) = key) (Ek : (q.ck : Int) = ck) :
  Calls Tryz.prog 66 #[.pointer (some ⟨b, 0, none⟩), CG tk kind key ck (.slice da dn dc)] w fun e w' => e = .returned (.bool (zT P q).1) ∧ p_ w' B b (zT P q).2 ∧ eX B w w' := by
 have od : q.data.length = dn := by obtain ⟨_, _, _, e, _⟩ := hd; injection e with _ e _; exact e.symm
 have fB : b < w.heap.size := hP.lt;have pR : eV 1000 P.t.dU := hl.mono (by decide);have Ef := zh (fun W (hb : Below w.heap.size w W) => zFo b P.t ga gn gc L P.ey kv nv rv P.bytes tk kind key ck da dn dc W (hP.below hb) (hR.g.rd.below hb) hR.gg pR iz q od);have OJ := zh (fun W (hb : Below w.heap.size w W) => zE2 b P.t ga gn gc L P.ey kv nv rv P.bytes tk kind key ck da dn dc W (hP.below hb) (hR.g.rd.below hb) hR.gg pR q CJ Ek);have eY := zh (fun W => zHg tk kind key ck da dn dc W);have mh := zh (fun W cap (hb : Below w.heap.size w W) (hc : dV W cap #[.pointer (some ⟨b, 0, none⟩)] 143) => zGw b cap P.t ga gn gc L P.ey kv nv rv P.bytes tk kind key ck da dn dc W hc (hP.below hb) (hR.g.rd.below hb) hR.gg pR);have El := zh (fun W (hb : Below w.heap.size w W) => zKr P.t ga gn gc L W (hR.g.rd.below hb) hR.gg pR);have iC := zh (fun W => zHt tk kind key ck da dn dc W iz)
 have OM := zh (fun W cap (h0 : zy P.t q = 0) (hb : Below w.heap.size w W) (hc : dV W cap #[.pointer (some ⟨b, 0, none⟩)] 143) => zIa hlo (hP.below hb) (hR.below hb) (hl.mono (by decide)) (ak hB hb.size) (by omega) hby q cap tk kind key ck da dn dc hc (iw.below hd hb) (by have := zEx h0; omega) CJ Ek);have Cv := zh (fun W (hb : Below w.heap.size w W) => zHb hlo (hP.below hb) (hR.below hb) hl (ak hB hb.size) hel hby M hM hsk nH q tk kind key ck da dn dc CJ Ek);have Fb := zh hP;have ni := zh hR;have pY := zh (fun W (hb : Below w.heap.size w W) => show p_ W B b P from ⟨ga, gn, gc, L, kv, ks, nv, es, rv, hlo, hP.below hb, hR.below hb⟩);have E9 : eM dn ≤ 4127 := xx dn;have h0 := hby.1;have fT := hby.2;clear hl pR hsk hel nH hd hby;have HDn := zh od;have Af := zh ZM;have Ow := zh CJ;clear od ZM CJ Ek;obtain ⟨ra, rc, Mu, hr1, hr2, _⟩ := zO hR.r;subst Mu;have q8 := hP.cell (i := 8) rfl
 clear hP hR;have eG := (aj w.heap.size w).alloc (ai _) (.cells #[.int .i64 tk, .int .i64 kind, .int .u64 key, .int .u32 ck, .slice da dn dc] 85);have HX := zh (dV.new w #[.int .i64 tk, .int .i64 kind, .int .u64 key, .int .u32 ck, .slice da dn dc] 85);have HB := zh eG;have Mv := zh (Fb.out.below eG);clear eG q8
 go_enter Tryz.func66, Tryz.ntmps66
 go_upto_region 1 with fail;change Code.wp _ _ _ _ (w.alloc (.cells #[.int .i64 tk, .int .i64 kind, .int .u64 key, .int .u32 ck, .slice da dn dc] 85));generalize w.alloc (.cells #[.int .i64 tk, .int .i64 kind, .int .u64 key, .int .u32 ck, .slice da dn dc] 85) = w1 at *;generalize A3 : w.heap.size = b3 at *;have hz1 : w.heap.size ≤ b3 := by omega
 have hz2 : b3 ≤ w.heap.size := by omega
 have hBw : B ≤ w.heap.size := ak hB hz2;clear A3;have q8 := Mv.out.cell (i := 8) rfl
 by_cases jf : P.res.length = 16
 ·
  have HF := zh (qm (q := q) jf);have j16 : ((P.res.length : Int) == 16) = true := by simp; omega
  have lD := zh (pY.out w1 HB.out);go_wp2_with fail;go_ret;exact ⟨by rw [HF.out]; rfl, by rw [HF.out]; exact lD.out, eX.of (HB.out.mono hz1) (ak hB hz2)⟩
 have j16 : ((P.res.length : Int) == 16) = false := by simp; omega
 go_wp2_with fail;refine (zGp b w1).mono ?_;rintro e w2 ⟨g, cap, rfl, ZN, hb2⟩;have rh := zh ZN;have fU := zh (HX.out.below hb2);have eP := zh (HB.out.trans (hb2.mono (ak hz2 HB.out.size)));clear ZN hb2 HX HB Mv q8
 go_upto_block 0 with fail
 go_cut [5] (fun ev wx => ∃ E st, ev = .int .i64 E ∧ Hid (zT P q = (true, more st E)) ∧ Hid (p_ wx B b st) ∧ Hid (eX B w wx))
 case first =>
  go_wp2_with fail
  go_loopw [5, 18] (fun ev iv W => ∃ (j : Nat) (E : Int) (st : fh), ev = .int .i64 E ∧ iv = .int .i64 (j : Int) ∧ j ≤ 2 ∧ Hid ((j = 0 ∨ (j = 1 ∧ kind ≠ 1) ∨ (j = 2 ∧ kind ≠ 1 ∧ kind ≠ 2)) → E = 1 ∧ st = P ∧ Below b3 w W) ∧ Hid (¬ (j = 0 ∨ (j = 1 ∧ kind ≠ 1) ∨ (j = 2 ∧ kind ≠ 1 ∧ kind ≠ 2)) → zT P q = (true, more st E)) ∧ Hid (p_ W B b st) ∧ Hid (dV W b3 #[.int .i64 tk, .int .i64 kind, .int .u64 key, .int .u32 ck, .slice da dn dc] 85) ∧ Hid (iW W b g cap) ∧ Hid (eX B w W)) (fun _ iv _ => 2 - (intOf iv).toNat)
  case atStart => exact ⟨0, 1, P, rfl, rfl, au _, zh (fun _ => ⟨rfl, rfl, eP.out⟩), zh (fun h => absurd (.inl rfl) h), zh (pY.out w2 eP.out), fU, rh, zh (eX.of (eP.out.mono hz1) hBw)⟩
  obtain ⟨j, E, st, rfl, rfl, hj2, AO, IC, jL, HX, rh, HB⟩ := hrel;rcases (show j = 0 ∨ j = 1 ∨ j = 2 by omega) with rfl | rfl | rfl
  ·
   have c0 := rh.out.r.cell (i := 0) rfl;have c1 := rh.out.r.cell (i := 1) rfl;have c2 := rh.out.r.cell (i := 2) rfl;have c3 := rh.out.r.cell (i := 3) rfl;obtain ⟨rfl, _, jN⟩ := AO.out (.inl rfl);have oW := zh jN;clear jN IC;have Dx : b3 ≤ wr.heap.size := ak hz2 oW.out.size;have eG := (aj wr.heap.size wr).alloc (ai _) (.cells #[.int .i64 1, .func (.func 144) #[.pointer (some ⟨b, 0, none⟩)] #[], .func (.func 145) #[] #[], .func (.func 146) #[] #[.pointer (some ⟨cap, 0, none⟩)]] 192);have HY := zh (dV.new wr #[.int .i64 1, .func (.func 144) #[.pointer (some ⟨b, 0, none⟩)] #[], .func (.func 145) #[] #[], .func (.func 146) #[] #[.pointer (some ⟨cap, 0, none⟩)]] 192);go_upto_region 7 with fail;change Code.wp _ _ _ _ (wr.alloc (.cells #[.int .i64 1, .func (.func 144) #[.pointer (some ⟨b, 0, none⟩)] #[], .func (.func 145) #[] #[], .func (.func 146) #[] #[.pointer (some ⟨cap, 0, none⟩)]] 192))
   obtain ⟨bR, IE⟩ : ∃ bR, wr.heap.size = bR := ⟨_, rfl⟩
   rw [IE] at HY ⊢
   by_cases pO : kind = 1
   ·
    have hk : kind = 1 := pO;subst hk;clear pO;have jx := zh (oW.out.trans (eG.mono Dx));have Dy := zh (Fb.out.below (jx.out.mono hz1));have ik := zh (HX.out.below eG);have rR := zh (rh.out.below eG);clear eG jL HX rh HB oW;generalize wr.alloc (.cells #[.int .i64 1, .func (.func 144) #[.pointer (some ⟨b, 0, none⟩)] #[], .func (.func 145) #[] #[], .func (.func 146) #[] #[.pointer (some ⟨cap, 0, none⟩)]] 192) = w6 at *;have y0 := HY.out.cell (i := 0) rfl;have y1 := HY.out.cell (i := 1) rfl;have x0 := ik.out.cell (i := 0) rfl;have x1 := ik.out.cell (i := 1) rfl;have x2 := ik.out.cell (i := 2) rfl;have x3 := ik.out.cell (i := 3) rfl;have x4 := ik.out.cell (i := 4) rfl;have Dz : b3 ≤ w6.heap.size := ak hz2 jx.out.size;go_wp2_with fail;refine (Ef.out w6 jx.out).mono ?_;rintro e w7 ⟨rfl, nO⟩;have iL := zh (jx.out.trans (nO.mono Dz));have jy := zh (Dy.out.below nO)
    have iH := zh (ik.out.below nO);have oD := zh (rR.out.below nO);have rX := zh (HY.out.below nO);have nL : b3 ≤ w7.heap.size := ak hz2 iL.out.size;clear nO y0 y1 x0 x1 x2 x3 x4 jx Dy ik rR HY Dz;obtain ⟨cc, hcc⟩ : ∃ cc, zy P.t q = cc := ⟨_, rfl⟩
    have A5 := zh hcc;rw [hcc];clear hcc;rcases (show cc = 0 ∨ cc = 8 ∨ cc = 9 by rw [← A5.out]; exact zB5) with rfl | rfl | rfl
    ·
     have DC : ∃ sb, (decide (0 < P.bytes) && decide (16384 < P.bytes + (eM dn : Int))) = sb := ⟨_, rfl⟩
     obtain ⟨sb, hsb⟩ := DC;have su := zh hsb;clear hsb;go_upto_region 13 with fail
     go_cut [73] (fun v wx => v = .bool sb ∧ Hid (Below w7.heap.size w7 wx))
     case first =>
      have Cj := zh (show ∀ W, Calls Tryz.prog 108 #[CG tk 1 key ck (.slice da dn dc)] W fun e w' => e = .returned (.int .i64 (eM dn : Int)) ∧ Below W.heap.size W w' from fun W => iC.out W);have A6 := zh (show ∀ W, Below b3 w W → dV W cap #[.pointer (some ⟨b, 0, none⟩)] 143 → Calls Tryz.prog 145 #[CG tk 1 key ck (.slice da dn dc)] W fun e w' => e = .returned (.bool true) ∧ Below W.heap.size W w' from fun W _ _ => eY.out W);have Mw := E9;clear Ef OJ eY mh El iC OM Cv pY AO ni;obtain ⟨bz, DF⟩ : ∃ bz, P.bytes = bz := ⟨_, rfl⟩
      rw [DF] at jy su h0 fT;clear DF
      by_cases hpos : 0 < bz
      ·
       obtain ⟨bg, hbg⟩ : ∃ bg, decide (16384 < bz + (eM dn : Int)) = bg := ⟨_, rfl⟩
       have mG := zh hbg;have hs := su.out;rw [aF hpos, hbg] at hs;simp only [cG] at hs;subst hs;clear su hbg;have y2 := zB (rX.out.cell (i := 2) rfl);have x0 := zB (iH.out.cell (i := 0) rfl);have x1 := zB (iH.out.cell (i := 1) rfl);have x2 := zB (iH.out.cell (i := 2) rfl);have x3 := zB (iH.out.cell (i := 3) rfl);have x4 := zB (iH.out.cell (i := 4) rfl);have q9 := zB (jy.out.cell (i := 9) rfl);have hg1 : decide (0 < bz) = true := aF hpos;have hg2 : decide (16384 < bz + (eM dn : Int)) = bg := mG.out;refine zC (by kernel_rfl) (by kernel_rfl) ?_
       repeat (go_big_quiet_step (first | exact zG (A6.out _ (iL.out.trans ((dY.h _).mono nL)) (oD.out.c.below (dY.h _))) | exact zG (Cj.out _)))
       refine aC ?_;intro _ hw';obtain ⟨qq, hw'⟩ := hw';subst hw';have ek := zh qq.h;clear y2 x0 x1 x2 x3 x4 q9;generalize qq.w' = w8 at *;go_wp2_with fail;go_meet
       case rel => exact ⟨rfl, ek⟩
      obtain rfl : bz = 0 := by omega
      have hs := su.out;rw [aD hpos] at hs;simp only [cG, Bool.false_and] at hs;subst hs;clear su hpos;have y2 := zB (rX.out.cell (i := 2) rfl);have x0 := zB (iH.out.cell (i := 0) rfl);have x1 := zB (iH.out.cell (i := 1) rfl);have x2 := zB (iH.out.cell (i := 2) rfl);have x3 := zB (iH.out.cell (i := 3) rfl);have x4 := zB (iH.out.cell (i := 4) rfl);have q9 := zB (jy.out.cell (i := 9) rfl);refine zC (by kernel_rfl) (by kernel_rfl) ?_
      repeat (go_big_quiet_step (first | exact zG (A6.out _ (iL.out.trans ((dY.h _).mono nL)) (oD.out.c.below (dY.h _))) | exact zG (Cj.out _)))
      refine aC ?_;intro _ hw';obtain ⟨qq, hw'⟩ := hw';subst hw';have ek := zh qq.h;clear y2 x0 x1 x2 x3 x4 q9;generalize qq.w' = w8 at *;go_wp2_with fail;go_meet
      case rel => exact ⟨rfl, ek⟩
     obtain ⟨rfl, lZ⟩ := hcut;generalize wc = w8 at *;have jk := zh (iL.out.trans (lZ.out.mono nL));have n_ := zh (iH.out.below lZ.out);have Ck := zh (oD.out.below lZ.out);have FI := zh (rX.out.below lZ.out);clear lZ iH oD rX jy iL nL
     cases sb
     ·
      have HF := zh (uT (q := q) jf Af.out A5.out (show ¬ (0 < P.bytes ∧ 16384 < P.bytes + (eM q.data.length : Int)) from by
       have hs := su.out
       intro hh
       have Co : (decide (0 < P.bytes) && decide (16384 < P.bytes + (eM dn : Int))) = true := by simp only [aM, aT]; exact ⟨hh.1, by rw [← HDn.out]; exact hh.2⟩
       rw [Co] at hs
       cases hs))
      have y3 := FI.out.cell (i := 3) rfl;have x0 := n_.out.cell (i := 0) rfl;have x1 := n_.out.cell (i := 1) rfl;have x2 := n_.out.cell (i := 2) rfl;have x3 := n_.out.cell (i := 3) rfl;have x4 := n_.out.cell (i := 4) rfl;have IF : b3 ≤ w8.heap.size := ak hz2 jk.out.size;go_wp2_with fail;refine (OM.out w8 cap A5.out jk.out Ck.out.c).mono ?_;rintro e w9 ⟨rfl, sr, fT⟩;have lL := zh ((eX.of (jk.out.mono hz1) hBw).trans fT);have mK := zh (fT.box n_.out (by decide));have IG := zh (Ck.out.kept fT);have sQ := zh sr;clear sr fT n_ Ck FI jk y3 x0 x1 x2 x3 x4 IF;go_wp2_with fail;exact ⟨⟨1, 0, _, rfl, rfl, by decide, zh (fun h => by omega), zh (fun _ => HF.out), sQ, mK, IG, lL⟩, by simp [intOf]⟩
     have HF := zh (qi (q := q) jf Af.out A5.out (show 0 < P.bytes ∧ 16384 < P.bytes + (eM q.data.length : Int) from by
      have hs := su.out
      simp only [aM, aT] at hs
      exact ⟨hs.1, by rw [HDn.out]; exact hs.2⟩))
     have lD := zh (pY.out w8 jk.out);go_wp2_with fail;go_ret;exact ⟨by rw [HF.out]; rfl, by rw [HF.out]; exact lD.out, eX.of (jk.out.mono hz1) hBw⟩
    ·
     have HF := zh (vN (q := q) jf Af.out (fun h => by have := h.1; rw [A5.out] at this; cases this) (by rw [A5.out]; decide));have lD := zh (pY.out w7 iL.out);have gN := zh (eX.of (iL.out.mono hz1) hBw);have Ak := zh (show zT P q = (true, more P 8) by have h := HF.out; rw [A5.out] at h; exact h);clear HF;go_wp2_with fail;go_meet
     case rel => exact ⟨8, P, rfl, Ak, lD, gN⟩
    by_cases hcs : xe P.t = true
    ·
     have HF := zh (SU (q := q) jf Af.out A5.out hcs);have q0 := jy.out.cell (i := 0) rfl;have q1 := jy.out.cell (i := 1) rfl;have q2 := jy.out.cell (i := 2) rfl;have q3 := jy.out.cell (i := 3) rfl;go_wp2_with fail;refine (El.out w7 iL.out).mono ?_;rintro e w8 ⟨rfl, Bd⟩;rw [hcs];have jk := zh (iL.out.trans (Bd.mono nL));have II := jy.out.below Bd;have F3 := zh (ni.out.below (jk.out.mono hz1));have q8 := II.cell (i := 8) rfl;have q4 := II.cell (i := 4) rfl;have f4 := II.frozen 4;obtain ⟨rz, hrz⟩ : ∃ rz, ((P.res.length : Int) == 0) = rz := ⟨_, rfl⟩
     have Tb : decide (P.res.length = 0) = rz := by
      rw [← hrz]
      by_cases e : P.res.length = 0
      ·
       simp [e]
      have e2 : ¬ (P.res.length : Int) = 0 := by omega
      simp [e]
     have mD : iJ w8 (w8.setCell ⟨b, 4, none⟩ (.bool rz)) B b 145 := iJ.pts hlo ⟨_, _, II⟩ [(4, .bool rz)];have pj := zh (F3.out.jw mD);have sQ := zh (show oL (w8.setCell ⟨b, 4, none⟩ (.bool rz)) b P.t.id P.t.lim P.t.ro ga gn gc rz kv nv (.slice ra P.res.length rc) P.bytes from (by have h := II.set 4 (.bool rz); rw [zLW] at h; exact h));have lL := zh ((eX.of (jk.out.mono hz1) hBw).pts hlo [(4, .bool rz)] ⟨_, _, II⟩ (by decide));clear Bd II mD F3 jy jk q0 q1 q2 q3 iH oD rX iL;go_wp2_with fail;go_ret;exact ⟨by rw [HF.out]; rfl, by rw [HF.out, Tb]; exact ⟨ga, gn, gc, L, kv, ks, nv, es, _, hlo, sQ.out, ⟨pj.out.g, pj.out.gg, pj.out.k, pj.out.kk, pj.out.n, pj.out.nn, pj.out.r⟩⟩, lL.out⟩
    have hcf : xe P.t = false := by simpa using hcs
    have HF := zh (vN (q := q) jf Af.out (fun h => hcs h.2) (by rw [A5.out]; decide));have lD := zh (pY.out w7 iL.out);have gN := zh (eX.of (iL.out.mono hz1) hBw);have q0 := jy.out.cell (i := 0) rfl;have q1 := jy.out.cell (i := 1) rfl;have q2 := jy.out.cell (i := 2) rfl;have q3 := jy.out.cell (i := 3) rfl;go_wp2_with fail;refine (El.out w7 iL.out).mono ?_;rintro e w8 ⟨rfl, Bd⟩;rw [hcf];have jk := zh (iL.out.trans (Bd.mono nL));have Tc := zh (pY.out w8 jk.out);have Td := zh (eX.of (jk.out.mono hz1) hBw);have HF9 := zh (show zT P q = (true, more P 9) by have h := HF.out; rw [A5.out] at h; exact h);clear Bd lD gN q0 q1 q2 q3 HF;go_wp2_with fail;go_meet
    case rel => exact ⟨9, P, rfl, HF9, Tc, Td⟩
   have jx := zh (oW.out.trans (eG.mono Dx));have ik := zh (HX.out.below eG);have rR := zh (rh.out.below eG);have lD := zh (pY.out _ jx.out);clear eG jL HX rh HB oW c0 c1 c2 c3;generalize wr.alloc (.cells #[.int .i64 1, .func (.func 144) #[.pointer (some ⟨b, 0, none⟩)] #[], .func (.func 145) #[] #[], .func (.func 146) #[] #[.pointer (some ⟨cap, 0, none⟩)]] 192) = w6 at *;have y0 := HY.out.cell (i := 0) rfl;have x1 := ik.out.cell (i := 1) rfl;have hk2 : ¬ (1 : Int) = kind := fun h => pO h.symm
   have gN := zh (eX.of (jx.out.mono hz1) hBw);go_wp2_with fail;exact ⟨⟨1, 1, P, rfl, rfl, by decide, zh (fun _ => ⟨rfl, rfl, jx.out⟩), zh (fun h => absurd (.inr (.inl ⟨rfl, pO⟩)) h), lD, ik, rR, gN⟩, by simp [intOf]⟩
  ·
   have c0 := rh.out.r.cell (i := 4) rfl;have c1 := rh.out.r.cell (i := 5) rfl;have c2 := rh.out.r.cell (i := 6) rfl;have c3 := rh.out.r.cell (i := 7) rfl
   by_cases Te : kind = 1
   ·
    have mO := IC.out (by omega);have Tf := zh mO;clear mO IC AO;subst Te;have x1 := HX.out.cell (i := 1) rfl;have eG := (aj wr.heap.size wr).alloc (ai _) (.cells #[.int .i64 2, .func (.func 149) #[.pointer (some ⟨b, 0, none⟩)] #[], .func (.func 150) #[] #[.pointer (some ⟨cap, 0, none⟩)], .func (.func 152) #[.pointer (some ⟨b, 0, none⟩)] #[]] 192);have DV : B ≤ wr.heap.size := ak hB (ak hz2 HB.out.size);have DG := zh (jL.out.below eG);have fU := zh (HX.out.below eG);have Tg := zh (rh.out.below eG);have eP := zh (HB.out.step eG DV);have x1 := fU.out.cell (i := 1) rfl;clear eG;go_wp2_with fail;exact ⟨⟨2, E, st, rfl, rfl, ai _, zh (fun h => by omega), zh (fun _ => Tf.out), DG, fU, Tg, eP⟩, by simp [intOf]⟩
   obtain ⟨rfl, _, jN⟩ := AO.out (.inr (.inl ⟨rfl, Te⟩));have oW := zh jN;clear jN IC;have Dx : b3 ≤ wr.heap.size := ak hz2 oW.out.size;have eG := (aj wr.heap.size wr).alloc (ai _) (.cells #[.int .i64 2, .func (.func 149) #[.pointer (some ⟨b, 0, none⟩)] #[], .func (.func 150) #[] #[.pointer (some ⟨cap, 0, none⟩)], .func (.func 152) #[.pointer (some ⟨b, 0, none⟩)] #[]] 192);have HY := zh (dV.new wr #[.int .i64 2, .func (.func 149) #[.pointer (some ⟨b, 0, none⟩)] #[], .func (.func 150) #[] #[.pointer (some ⟨cap, 0, none⟩)], .func (.func 152) #[.pointer (some ⟨b, 0, none⟩)] #[]] 192);go_upto_region 7 with fail;change Code.wp _ _ _ _ (wr.alloc (.cells #[.int .i64 2, .func (.func 149) #[.pointer (some ⟨b, 0, none⟩)] #[], .func (.func 150) #[] #[.pointer (some ⟨cap, 0, none⟩)], .func (.func 152) #[.pointer (some ⟨b, 0, none⟩)] #[]] 192));obtain ⟨bR, IE⟩ : ∃ bR, wr.heap.size = bR := ⟨_, rfl⟩
   rw [IE] at HY ⊢
   by_cases pO : kind = 2
   ·
    have hk : kind = 2 := pO;subst hk;clear pO;have jx := zh (oW.out.trans (eG.mono Dx));have Dy := zh (Fb.out.below (jx.out.mono hz1));have ik := zh (HX.out.below eG);have rR := zh (rh.out.below eG);clear eG jL HX rh HB oW;generalize wr.alloc (.cells #[.int .i64 2, .func (.func 149) #[.pointer (some ⟨b, 0, none⟩)] #[], .func (.func 150) #[] #[.pointer (some ⟨cap, 0, none⟩)], .func (.func 152) #[.pointer (some ⟨b, 0, none⟩)] #[]] 192) = w6 at *;have y0 := HY.out.cell (i := 0) rfl;have y1 := HY.out.cell (i := 1) rfl;have x0 := ik.out.cell (i := 0) rfl;have x1 := ik.out.cell (i := 1) rfl;have x2 := ik.out.cell (i := 2) rfl;have x3 := ik.out.cell (i := 3) rfl;have x4 := ik.out.cell (i := 4) rfl;have Dz : b3 ≤ w6.heap.size := ak hz2 jx.out.size;go_wp2_with fail;refine (OJ.out w6 jx.out).mono ?_;rintro e w7 ⟨rfl, nO⟩;have iL := zh (jx.out.trans (nO.mono Dz));have jy := zh (Dy.out.below nO)
    have iH := zh (ik.out.below nO);have oD := zh (rR.out.below nO);have rX := zh (HY.out.below nO);have nL : b3 ≤ w7.heap.size := ak hz2 iL.out.size;clear nO y0 y1 x0 x1 x2 x3 x4 jx Dy ik rR HY Dz;obtain ⟨cc, hcc⟩ : ∃ cc, xI P.t q = cc := ⟨_, rfl⟩
    have A5 := zh hcc;rw [hcc];clear hcc;rcases (show cc = 0 ∨ cc = 6 by rw [← A5.out]; exact tQ) with rfl | rfl
    ·
     have DC : ∃ sb, (vI P.t key && (decide (0 < P.bytes) && decide (16384 < P.bytes + 24))) = sb := ⟨_, rfl⟩
     obtain ⟨sb, hsb⟩ := DC;have su := zh hsb;clear hsb;go_upto_region 13 with fail
     go_cut [73] (fun v wx => v = .bool sb ∧ Hid (Below w7.heap.size w7 wx))
     case first =>
      have Cj := zh (show ∀ W, Calls Tryz.prog 108 #[CG tk 2 key ck (.slice da dn dc)] W fun e w' => e = .returned (.int .i64 24) ∧ Below W.heap.size W w' from fun W => iC.out W);have A6 := zh (show ∀ W, Below b3 w W → dV W cap #[.pointer (some ⟨b, 0, none⟩)] 143 → Calls Tryz.prog 150 #[CG tk 2 key ck (.slice da dn dc), .pointer (some ⟨cap, 0, none⟩)] W fun e w' => e = .returned (.bool (vI P.t key)) ∧ Below W.heap.size W w' from fun W hb hc => mh.out W cap hb hc);have Mw := E9;clear Ef OJ eY mh El iC OM Cv pY AO ni;obtain ⟨bz, DF⟩ : ∃ bz, P.bytes = bz := ⟨_, rfl⟩
      rw [DF] at jy su h0 fT;clear DF;obtain ⟨tb, ZO⟩ : ∃ tb, vI P.t key = tb := ⟨_, rfl⟩
      rw [ZO] at A6 su;clear ZO
      cases tb
      ·
       have hs := su.out;rw [Bool.false_and] at hs;subst hs;clear su;have y2 := zB (rX.out.cell (i := 2) rfl);have x0 := zB (iH.out.cell (i := 0) rfl);have x1 := zB (iH.out.cell (i := 1) rfl);have x2 := zB (iH.out.cell (i := 2) rfl);have x3 := zB (iH.out.cell (i := 3) rfl);have x4 := zB (iH.out.cell (i := 4) rfl);refine zC (by kernel_rfl) (by kernel_rfl) ?_
       repeat (go_big_quiet_step (first | exact zG (A6.out _ (iL.out.trans ((dY.h _).mono nL)) (oD.out.c.below (dY.h _))) | exact zG (Cj.out _)))
       refine aC ?_;intro _ hw';obtain ⟨qq, hw'⟩ := hw';subst hw';have ek := zh qq.h;clear y2 x0 x1 x2 x3 x4;generalize qq.w' = w8 at *;go_wp2_with fail;go_meet
       case rel => exact ⟨rfl, ek⟩
      by_cases hpos : 0 < bz
      ·
       obtain ⟨bg, hbg⟩ : ∃ bg, decide (16384 < bz + 24) = bg := ⟨_, rfl⟩
       have mG := zh hbg;have hs := su.out;rw [aF hpos, hbg] at hs;simp only [cG] at hs;subst hs;clear su hbg;have y2 := zB (rX.out.cell (i := 2) rfl);have x0 := zB (iH.out.cell (i := 0) rfl);have x1 := zB (iH.out.cell (i := 1) rfl);have x2 := zB (iH.out.cell (i := 2) rfl);have x3 := zB (iH.out.cell (i := 3) rfl);have x4 := zB (iH.out.cell (i := 4) rfl);have q9 := zB (jy.out.cell (i := 9) rfl);have hg1 : decide (0 < bz) = true := aF hpos;have hg2 : decide (16384 < bz + 24) = bg := mG.out;refine zC (by kernel_rfl) (by kernel_rfl) ?_
       repeat (go_big_quiet_step (first | exact zG (A6.out _ (iL.out.trans ((dY.h _).mono nL)) (oD.out.c.below (dY.h _))) | exact zG (Cj.out _)))
       refine aC ?_;intro _ hw';obtain ⟨qq, hw'⟩ := hw';subst hw';have ek := zh qq.h;clear y2 x0 x1 x2 x3 x4 q9;generalize qq.w' = w8 at *;go_wp2_with fail;go_meet
       case rel => exact ⟨rfl, ek⟩
      obtain rfl : bz = 0 := by omega
      have hs := su.out;rw [aD hpos] at hs;simp only [cG, Bool.false_and] at hs;subst hs;clear su hpos;have y2 := zB (rX.out.cell (i := 2) rfl);have x0 := zB (iH.out.cell (i := 0) rfl);have x1 := zB (iH.out.cell (i := 1) rfl);have x2 := zB (iH.out.cell (i := 2) rfl);have x3 := zB (iH.out.cell (i := 3) rfl);have x4 := zB (iH.out.cell (i := 4) rfl);have q9 := zB (jy.out.cell (i := 9) rfl);refine zC (by kernel_rfl) (by kernel_rfl) ?_
      repeat (go_big_quiet_step (first | exact zG (A6.out _ (iL.out.trans ((dY.h _).mono nL)) (oD.out.c.below (dY.h _))) | exact zG (Cj.out _)))
      refine aC ?_;intro _ hw';obtain ⟨qq, hw'⟩ := hw';subst hw';have ek := zh qq.h;clear y2 x0 x1 x2 x3 x4 q9;generalize qq.w' = w8 at *;go_wp2_with fail;go_meet
      case rel => exact ⟨rfl, ek⟩
     obtain ⟨rfl, lZ⟩ := hcut;generalize wc = w8 at *;have jk := zh (iL.out.trans (lZ.out.mono nL));have n_ := zh (iH.out.below lZ.out);have Ck := zh (oD.out.below lZ.out);have FI := zh (rX.out.below lZ.out);clear lZ iH oD rX jy iL nL
     cases sb
     ·
      have HF := zh (vM (q := q) jf Af.out A5.out (show ¬ (vI P.t q.key = true ∧ 0 < P.bytes ∧ 16384 < P.bytes + 24) from by
       have hs := su.out
       intro hh
       have Co : (vI P.t key && (decide (0 < P.bytes) && decide (16384 < P.bytes + 24))) = true := by simp only [aM, aT]; exact ⟨by rw [← Ow.out]; exact hh.1, hh.2⟩
       rw [Co] at hs
       cases hs))
      have y3 := FI.out.cell (i := 3) rfl;have x0 := n_.out.cell (i := 0) rfl;have x1 := n_.out.cell (i := 1) rfl;have x2 := n_.out.cell (i := 2) rfl;have x3 := n_.out.cell (i := 3) rfl;have x4 := n_.out.cell (i := 4) rfl;have IF : b3 ≤ w8.heap.size := ak hz2 jk.out.size;go_wp2_with fail;refine (Cv.out w8 jk.out).mono ?_;rintro e w9 ⟨rfl, sr, fT⟩;have lL := zh ((eX.of (jk.out.mono hz1) hBw).trans fT);have mK := zh (fT.box n_.out (by decide));have IG := zh (Ck.out.kept fT);have sQ := zh sr;clear sr fT n_ Ck FI jk y3 x0 x1 x2 x3 x4 IF;go_wp2_with fail;exact ⟨⟨2, 0, _, rfl, rfl, by decide, zh (fun h => by omega), zh (fun _ => HF.out), sQ, mK, IG, lL⟩, by simp [intOf]⟩
     have HF := zh (qp (q := q) jf Af.out A5.out (show vI P.t q.key = true ∧ 0 < P.bytes ∧ 16384 < P.bytes + 24 from by
      have hs := su.out
      simp only [aM, aT] at hs
      exact ⟨by rw [Ow.out]; exact hs.1, hs.2⟩))
     have lD := zh (pY.out w8 jk.out);go_wp2_with fail;go_ret;exact ⟨by rw [HF.out]; rfl, by rw [HF.out]; exact lD.out, eX.of (jk.out.mono hz1) hBw⟩
    have HF := zh (vX (q := q) jf Af.out A5.out);have lD := zh (pY.out w7 iL.out);have gN := zh (eX.of (iL.out.mono hz1) hBw);go_wp2_with fail;go_meet
    case rel => exact ⟨6, P, rfl, HF, lD, gN⟩
   have jx := zh (oW.out.trans (eG.mono Dx));have ik := zh (HX.out.below eG);have rR := zh (rh.out.below eG);have lD := zh (pY.out _ jx.out);clear eG jL HX rh HB oW c0 c1 c2 c3;generalize wr.alloc (.cells #[.int .i64 2, .func (.func 149) #[.pointer (some ⟨b, 0, none⟩)] #[], .func (.func 150) #[] #[.pointer (some ⟨cap, 0, none⟩)], .func (.func 152) #[.pointer (some ⟨b, 0, none⟩)] #[]] 192) = w6 at *;have y0 := HY.out.cell (i := 0) rfl;have x1 := ik.out.cell (i := 1) rfl;have hk2 : ¬ (2 : Int) = kind := fun h => pO h.symm
   have gN := zh (eX.of (jx.out.mono hz1) hBw);go_wp2_with fail;exact ⟨⟨2, 1, P, rfl, rfl, by decide, zh (fun _ => ⟨rfl, rfl, jx.out⟩), zh (fun h => absurd (.inr (.inr ⟨rfl, Te, pO⟩)) h), lD, ik, rR, gN⟩, by simp [intOf]⟩
  by_cases Ti : kind ≠ 1 ∧ kind ≠ 2
  ·
   obtain ⟨rfl, _, jN⟩ := AO.out (.inr (.inr ⟨rfl, Ti⟩));have lD := zh (pY.out _ jN);have HF := zh (vp (P := P) (q := q) jf (by rw [Af.out]; exact Ti.1) (by rw [Af.out]; exact Ti.2));clear AO IC jN;go_wp2_with fail;go_meet
   case rel => exact ⟨1, P, rfl, HF, lD, HB⟩
  have HF := zh (IC.out (fun h => by omega));clear AO IC;go_wp2_with fail;go_meet
  case rel => exact ⟨E, st, rfl, HF, jL, HB⟩
 obtain ⟨E, st, rfl, HF, jL, HB⟩ := hcut;generalize wc = v1 at *;obtain ⟨nJ, nK, gc', L', Il, u_, Dr, es', OG, IJ, Tj, Tk⟩ := jL.out;obtain ⟨ra', rc', Tl, aiR, aiS, _⟩ := zO Tk.r;subst Tl;have ZP : st.res.length ≤ 16 := by
  have h := (uW P q Ta).1;rw [HF.out] at h;unfold more at h;simp only [aA, aX, dI] at h;omega
 have hB1 : B ≤ v1.heap.size := ak hBw HB.out.size;have q8 := Tj.cell (i := 8) rfl;have eG := (aj v1.heap.size v1).alloc (ai _) (.cells #[.int .i64 E] 39);have Dt := zh (Tj.below eG);have Ei := zh (Tk.below eG);have B6 := zh (HB.out.step eG hB1);have ig := zh Ei.out.r;have ZQ := ak hB1 eG.size;clear eG Tj Tk jL HB Ef OJ eY mh El iC OM Cv pY fU eP rh Fb ni;go_wp2_with (at_builtin; go_must (refine zd (n := st.res.length) (m := 1) rfl (.tmp 84) (.tmp 86) 69 rfl zLR B rfl ig.out rfl (Rd.nu v1.heap.size v1 rfl 1 [.int .i64 E] 39 1 rfl (by decide)) (fun u hu => by simp only [cB, cC, or_false] at hu; rw [hu]; rfl) (by unfold maxLen; omega) (by omega) ZQ ?_); intro v3 w3 ei eW hv3; clear hv3; obtain ⟨oa, oc, ev, _, _, _⟩ := zO ei; subst ev; have sr := Dt.out.gq (gH.row ig.out eW (ai B)) (by decide); have c8 := sr.cell (i := 8) rfl; have f8 := sr.frozen 8)
 have mD : iJ w3 (w3.setCell ⟨b, 8, none⟩ (.slice oa (st.res.length + 1) oc)) B b 145 := iJ.pts IJ ⟨_, _, sr⟩ [(8, .slice oa (st.res.length + 1) oc)];have pj := zh ((Ei.out.res E eW ei).1.jw mD);have sQ := zh (show oL (w3.setCell ⟨b, 8, none⟩ (.slice oa (st.res.length + 1) oc)) b st.t.id st.t.lim st.t.ro nJ nK gc' st.ey Il Dr (.slice oa (st.res.length + 1) oc) st.bytes from (by have h := sr.set 8 (.slice oa (st.res.length + 1) oc); rw [zLt] at h; exact h));have lL := zh ((B6.out.own ig.out ZQ eW (by decide)).pts IJ [(8, .slice oa (st.res.length + 1) oc)] ⟨_, _, sr⟩ (by decide));clear ei eW sr mD c8 f8 q8;go_wp2_with fail;go_ret;exact ⟨by rw [HF.out]; rfl, by rw [HF.out]; exact ⟨nJ, nK, gc', L', Il, u_, Dr, es', _, IJ, sQ.out, pj.out⟩, lL.out⟩
end Go.Proofs.YtcgfilmmokmdjaaGreat
