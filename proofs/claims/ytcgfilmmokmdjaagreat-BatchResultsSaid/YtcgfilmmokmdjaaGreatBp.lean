/- A part of the walk. -/
import Derived.Test.YtcgfilmmokmdjaaGreatQAU
import Derived.Deep.CutBlock
set_option maxRecDepth 100000
set_option maxHeartbeats 32000000
namespace Go.Proofs.YtcgfilmmokmdjaaGreat
open Go.RowKit
theorem zHV {w : World} {B b : Nat} {P : fg} {ga : Option Addr} {gn gc : Nat} {L : List GP} {kv : Value} {ks : List KP} {nv : Value} {es : List (Nd × Value)} {rv : Value} (hlo : B ≤ b) (hP : oI w b P.t.id P.t.lim P.t.ro ga gn gc P.ep kv nv rv P.bytes) (hR : lD w B P ga gn gc L kv ks nv es rv) (hl : eV 800 P.t.dP) (hB : B ≤ w.heap.size) (hel : es.length ≤ 900) (hby : 0 ≤ P.bytes ∧ P.bytes ≤ 1000000000) (M : Nat) (hM : M ≤ 100000) (hsk : nQ M P.ei) (nF : P.t.dP.length ≤ 1000000) (q : Rq) (tk kind key ck : Int) (da : Option Addr) (dn dc : Nat) (hd : oD w (.slice da dn dc) q.data) (iw : dn ≤ 1000000) (Tr : P.res.length ≤ 16) (hqd : q.kind = kind) (CP : (q.key : Int) = key) (Ep : (q.ck : Int) = ck) :
  Calls Tryz.prog 66 #[.pointer (some ⟨b, 0, none⟩), CN tk kind key ck (.slice da dn dc)] w fun e w' => e = .returned (.bool (zT P q).1) ∧ pW w' B b (zT P q).2 ∧ eX B w w' := by
 have n5 : q.data.length = dn := by obtain ⟨_, _, _, e, _⟩ := hd; injection e with _ e _; exact e.symm
 have fu : b < w.heap.size := hP.lt;have pN : eV 1000 P.t.dP := hl.mono (by decide);have Ej := zh (fun W (hb : Below w.heap.size w W) => zFo b P.t ga gn gc L P.ep kv nv rv P.bytes tk kind key ck da dn dc W (hP.below hb) (hR.g.rd.below hb) hR.gg pN iw q n5);have O7 := zh (fun W (hb : Below w.heap.size w W) => zE2 b P.t ga gn gc L P.ep kv nv rv P.bytes tk kind key ck da dn dc W (hP.below hb) (hR.g.rd.below hb) hR.gg pN q CP Ep);have eY := zh (fun W => zHg tk kind key ck da dn dc W);have me := zh (fun W cap (hb : Below w.heap.size w W) (hc : dQ W cap #[.pointer (some ⟨b, 0, none⟩)] 143) => zGw b cap P.t ga gn gc L P.ep kv nv rv P.bytes tk kind key ck da dn dc W hc (hP.below hb) (hR.g.rd.below hb) hR.gg pN);have Er := zh (fun W (hb : Below w.heap.size w W) => zKr P.t ga gn gc L W (hR.g.rd.below hb) hR.gg pN);have iz := zh (fun W => zHt tk kind key ck da dn dc W iw)
 have O8 := zh (fun W cap (h0 : zy P.t q = 0) (hb : Below w.heap.size w W) (hc : dQ W cap #[.pointer (some ⟨b, 0, none⟩)] 143) => zIa hlo (hP.below hb) (hR.below hb) (hl.mono (by decide)) (ak hB hb.size) (by omega) hby q cap tk kind key ck da dn dc hc (ik.below hd hb) (by have := zEx h0; omega) CP Ep);have CA := zh (fun W (hb : Below w.heap.size w W) => zHb hlo (hP.below hb) (hR.below hb) hl (ak hB hb.size) hel hby M hM hsk nF q tk kind key ck da dn dc CP Ep);have Fj := zh hP;have ng := zh hR;have pU := zh (fun W (hb : Below w.heap.size w W) => show pW W B b P from ⟨ga, gn, gc, L, kv, ks, nv, es, rv, hlo, hP.below hb, hR.below hb⟩);have Fg : eG dn ≤ 4127 := xx dn;have h0 := hby.1;have fP := hby.2;clear hl pN hsk hel nF hd hby;have Gd := zh n5;have Ah := zh hqd;have OV := zh CP;clear n5 hqd CP Ep;obtain ⟨ra, rc, MO, PB, rV, _⟩ := zO hR.r;subst MO;have q8 := hP.cell (i := 8) rfl
 clear hP hR;have eC := (aj w.heap.size w).alloc (ai _) (.cells #[.int .i64 tk, .int .i64 kind, .int .u64 key, .int .u32 ck, .slice da dn dc] 85);have HX := zh (dQ.new w #[.int .i64 tk, .int .i64 kind, .int .u64 key, .int .u32 ck, .slice da dn dc] 85);have HB := zh eC;have MP := zh (Fj.out.below eC);clear eC q8
 go_enter Tryz.func66, Tryz.ntmps66
 go_upto_region 1 with fail;change Code.wp _ _ _ _ (w.alloc (.cells #[.int .i64 tk, .int .i64 kind, .int .u64 key, .int .u32 ck, .slice da dn dc] 85));generalize w.alloc (.cells #[.int .i64 tk, .int .i64 kind, .int .u64 key, .int .u32 ck, .slice da dn dc] 85) = w1 at *;generalize A3 : w.heap.size = b3 at *;have mf : w.heap.size ≤ b3 := by omega
 have gV : b3 ≤ w.heap.size := by omega
 have hBw : B ≤ w.heap.size := ak hB gV;clear A3;have q8 := MP.out.cell (i := 8) rfl
 by_cases jf : P.res.length = 16
 ·
  have HF := zh (qm (q := q) jf);have j16 : ((P.res.length : Int) == 16) = true := by simp; omega
  have lC := zh (pU.out w1 HB.out);go_wp2_with fail;go_ret;exact ⟨by rw [HF.out]; rfl, by rw [HF.out]; exact lC.out, eX.of (HB.out.mono mf) (ak hB gV)⟩
 have j16 : ((P.res.length : Int) == 16) = false := by simp; omega
 go_wp2_with fail;refine (zGp b w1).mono ?_;rintro e w2 ⟨g, cap, rfl, hru, ez⟩;have pY := zh hru;have fQ := zh (HX.out.below ez);have eN := zh (HB.out.trans (ez.mono (ak gV HB.out.size)));clear hru ez HX HB MP q8
 go_upto_block 0 with fail
 go_cut [5] (fun ev wx => ∃ E st, ev = .int .i64 E ∧ Hid (zT P q = (true, more st E)) ∧ Hid (pW wx B b st) ∧ Hid (eX B w wx))
 case first =>
  go_wp2_with fail
  go_loopw [5, 18] (fun ev iv W => ∃ (j : Nat) (E : Int) (st : fg), ev = .int .i64 E ∧ iv = .int .i64 (j : Int) ∧ j ≤ 2 ∧ Hid ((j = 0 ∨ (j = 1 ∧ kind ≠ 1) ∨ (j = 2 ∧ kind ≠ 1 ∧ kind ≠ 2)) → E = 1 ∧ st = P ∧ Below b3 w W) ∧ Hid (¬ (j = 0 ∨ (j = 1 ∧ kind ≠ 1) ∨ (j = 2 ∧ kind ≠ 1 ∧ kind ≠ 2)) → zT P q = (true, more st E)) ∧ Hid (pW W B b st) ∧ Hid (dQ W b3 #[.int .i64 tk, .int .i64 kind, .int .u64 key, .int .u32 ck, .slice da dn dc] 85) ∧ Hid (iW W b g cap) ∧ Hid (eX B w W)) (fun _ iv _ => 2 - (intOf iv).toNat)
  case atStart => exact ⟨0, 1, P, rfl, rfl, au _, zh (fun _ => ⟨rfl, rfl, eN.out⟩), zh (fun h => absurd (.inl rfl) h), zh (pU.out w2 eN.out), fQ, pY, zh (eX.of (eN.out.mono mf) hBw)⟩
  obtain ⟨j, E, st, rfl, rfl, hj2, AO, IY, jL, HX, pY, HB⟩ := eT;rcases (show j = 0 ∨ j = 1 ∨ j = 2 by omega) with rfl | rfl | rfl
  ·
   have c0 := pY.out.r.cell (i := 0) rfl;have c1 := pY.out.r.cell (i := 1) rfl;have c2 := pY.out.r.cell (i := 2) rfl;have c3 := pY.out.r.cell (i := 3) rfl;obtain ⟨rfl, _, jN⟩ := AO.out (.inl rfl);have oS := zh jN;clear jN IY;have DG : b3 ≤ wr.heap.size := ak gV oS.out.size;have eC := (aj wr.heap.size wr).alloc (ai _) (.cells #[.int .i64 1, .func (.func 144) #[.pointer (some ⟨b, 0, none⟩)] #[], .func (.func 145) #[] #[], .func (.func 146) #[] #[.pointer (some ⟨cap, 0, none⟩)]] 192);have HY := zh (dQ.new wr #[.int .i64 1, .func (.func 144) #[.pointer (some ⟨b, 0, none⟩)] #[], .func (.func 145) #[] #[], .func (.func 146) #[] #[.pointer (some ⟨cap, 0, none⟩)]] 192);go_upto_region 7 with fail;change Code.wp _ _ _ _ (wr.alloc (.cells #[.int .i64 1, .func (.func 144) #[.pointer (some ⟨b, 0, none⟩)] #[], .func (.func 145) #[] #[], .func (.func 146) #[] #[.pointer (some ⟨cap, 0, none⟩)]] 192))
   obtain ⟨bR, IZ⟩ : ∃ bR, wr.heap.size = bR := ⟨_, rfl⟩
   rw [IZ] at HY ⊢
   by_cases pJ : kind = 1
   ·
    have hk : kind = 1 := pJ;subst hk;clear pJ;have jx := zh (oS.out.trans (eC.mono DG));have DH := zh (Fj.out.below (jx.out.mono mf));have ia := zh (HX.out.below eC);have rS := zh (pY.out.below eC);clear eC jL HX pY HB oS;generalize wr.alloc (.cells #[.int .i64 1, .func (.func 144) #[.pointer (some ⟨b, 0, none⟩)] #[], .func (.func 145) #[] #[], .func (.func 146) #[] #[.pointer (some ⟨cap, 0, none⟩)]] 192) = w6 at *;have y0 := HY.out.cell (i := 0) rfl;have y1 := HY.out.cell (i := 1) rfl;have x0 := ia.out.cell (i := 0) rfl;have x1 := ia.out.cell (i := 1) rfl;have x2 := ia.out.cell (i := 2) rfl;have x3 := ia.out.cell (i := 3) rfl;have x4 := ia.out.cell (i := 4) rfl;have DI : b3 ≤ w6.heap.size := ak gV jx.out.size;go_wp2_with fail;refine (Ej.out w6 jx.out).mono ?_;rintro e w7 ⟨rfl, nM⟩;have iK := zh (jx.out.trans (nM.mono DI));have jy := zh (DH.out.below nM);have iG := zh (ia.out.below nM)
    have oA := zh (rS.out.below nM);have rZ := zh (HY.out.below nM);have nJ : b3 ≤ w7.heap.size := ak gV iK.out.size;clear nM y0 y1 x0 x1 x2 x3 x4 jx DH ia rS HY DI;obtain ⟨cc, Cg⟩ : ∃ cc, zy P.t q = cc := ⟨_, rfl⟩
    have A5 := zh Cg;rw [Cg];clear Cg;rcases (show cc = 0 ∨ cc = 8 ∨ cc = 9 by rw [← A5.out]; exact zB5) with rfl | rfl | rfl
    ·
     have DJ : ∃ sb, (decide (0 < P.bytes) && decide (16384 < P.bytes + (eG dn : Int))) = sb := ⟨_, rfl⟩
     obtain ⟨sb, hsb⟩ := DJ;have sy := zh hsb;clear hsb;go_upto_region 13 with fail
     go_cut [73] (fun v wx => v = .bool sb ∧ Hid (Below w7.heap.size w7 wx))
     case first =>
      have Cl := zh (show ∀ W, Calls Tryz.prog 108 #[CN tk 1 key ck (.slice da dn dc)] W fun e w' => e = .returned (.int .i64 (eG dn : Int)) ∧ Below W.heap.size W w' from fun W => iz.out W);have A6 := zh (show ∀ W, Below b3 w W → dQ W cap #[.pointer (some ⟨b, 0, none⟩)] 143 → Calls Tryz.prog 145 #[CN tk 1 key ck (.slice da dn dc)] W fun e w' => e = .returned (.bool true) ∧ Below W.heap.size W w' from fun W _ _ => eY.out W);have MQ := Fg;clear Ej O7 eY me Er iz O8 CA pU AO ng;obtain ⟨bz, DK⟩ : ∃ bz, P.bytes = bz := ⟨_, rfl⟩
      rw [DK] at jy sy h0 fP;clear DK
      by_cases hpos : 0 < bz
      ·
       obtain ⟨bg, rK⟩ : ∃ bg, decide (16384 < bz + (eG dn : Int)) = bg := ⟨_, rfl⟩
       have mE := zh rK;have hs := sy.out;rw [aF hpos, rK] at hs;simp only [cE] at hs;subst hs;clear sy rK;have y2 := zB (rZ.out.cell (i := 2) rfl);have x0 := zB (iG.out.cell (i := 0) rfl);have x1 := zB (iG.out.cell (i := 1) rfl);have x2 := zB (iG.out.cell (i := 2) rfl);have x3 := zB (iG.out.cell (i := 3) rfl);have x4 := zB (iG.out.cell (i := 4) rfl);have q9 := zB (jy.out.cell (i := 9) rfl);have hg1 : decide (0 < bz) = true := aF hpos;have hg2 : decide (16384 < bz + (eG dn : Int)) = bg := mE.out;refine zC (by kernel_rfl) (by kernel_rfl) ?_
       repeat (go_big_quiet_step (first | exact zG (A6.out _ (iK.out.trans ((dU.h _).mono nJ)) (oA.out.c.below (dU.h _))) | exact zG (Cl.out _)))
       refine aC ?_;intro _ dY;obtain ⟨qq, dY⟩ := dY;subst dY;have ea := zh qq.h;clear y2 x0 x1 x2 x3 x4 q9;generalize qq.w' = w8 at *;go_wp2_with fail;go_meet
       case rel => exact ⟨rfl, ea⟩
      obtain rfl : bz = 0 := by omega
      have hs := sy.out;rw [aD hpos] at hs;simp only [cE, Bool.false_and] at hs;subst hs;clear sy hpos;have y2 := zB (rZ.out.cell (i := 2) rfl);have x0 := zB (iG.out.cell (i := 0) rfl);have x1 := zB (iG.out.cell (i := 1) rfl);have x2 := zB (iG.out.cell (i := 2) rfl);have x3 := zB (iG.out.cell (i := 3) rfl);have x4 := zB (iG.out.cell (i := 4) rfl);have q9 := zB (jy.out.cell (i := 9) rfl);refine zC (by kernel_rfl) (by kernel_rfl) ?_
      repeat (go_big_quiet_step (first | exact zG (A6.out _ (iK.out.trans ((dU.h _).mono nJ)) (oA.out.c.below (dU.h _))) | exact zG (Cl.out _)))
      refine aC ?_;intro _ dY;obtain ⟨qq, dY⟩ := dY;subst dY;have ea := zh qq.h;clear y2 x0 x1 x2 x3 x4 q9;generalize qq.w' = w8 at *;go_wp2_with fail;go_meet
      case rel => exact ⟨rfl, ea⟩
     obtain ⟨rfl, lX⟩ := fZ;generalize wc = w8 at *;have jj := zh (iK.out.trans (lX.out.mono nJ));have nZ := zh (iG.out.below lX.out);have Cm := zh (oA.out.below lX.out);have FP := zh (rZ.out.below lX.out);clear lX iG oA rZ jy iK nJ
     cases sb
     ·
      have HF := zh (uT (q := q) jf Ah.out A5.out (show ¬ (0 < P.bytes ∧ 16384 < P.bytes + (eG q.data.length : Int)) from by
       have hs := sy.out
       intro hh
       have Cu : (decide (0 < P.bytes) && decide (16384 < P.bytes + (eG dn : Int))) = true := by simp only [aM, aU]; exact ⟨hh.1, by rw [← Gd.out]; exact hh.2⟩
       rw [Cu] at hs
       cases hs))
      have y3 := FP.out.cell (i := 3) rfl;have x0 := nZ.out.cell (i := 0) rfl;have x1 := nZ.out.cell (i := 1) rfl;have x2 := nZ.out.cell (i := 2) rfl;have x3 := nZ.out.cell (i := 3) rfl;have x4 := nZ.out.cell (i := 4) rfl;have I1 : b3 ≤ w8.heap.size := ak gV jj.out.size;go_wp2_with fail;refine (O8.out w8 cap A5.out jj.out Cm.out.c).mono ?_;rintro e w9 ⟨rfl, sx, fP⟩;have lJ := zh ((eX.of (jj.out.mono mf) hBw).trans fP);have mJ := zh (fP.box nZ.out (by decide));have I2 := zh (Cm.out.kept fP);have sR := zh sx;clear sx fP nZ Cm FP jj y3 x0 x1 x2 x3 x4 I1;go_wp2_with fail;exact ⟨⟨1, 0, _, rfl, rfl, by decide, zh (fun h => by omega), zh (fun _ => HF.out), sR, mJ, I2, lJ⟩, by simp [intOf]⟩
     have HF := zh (qi (q := q) jf Ah.out A5.out (show 0 < P.bytes ∧ 16384 < P.bytes + (eG q.data.length : Int) from by
      have hs := sy.out
      simp only [aM, aU] at hs
      exact ⟨hs.1, by rw [Gd.out]; exact hs.2⟩))
     have lC := zh (pU.out w8 jj.out);go_wp2_with fail;go_ret;exact ⟨by rw [HF.out]; rfl, by rw [HF.out]; exact lC.out, eX.of (jj.out.mono mf) hBw⟩
    ·
     have HF := zh (vN (q := q) jf Ah.out (fun h => by have := h.1; rw [A5.out] at this; cases this) (by rw [A5.out]; decide));have lC := zh (pU.out w7 iK.out);have gI := zh (eX.of (iK.out.mono mf) hBw);have Am := zh (show zT P q = (true, more P 8) by have h := HF.out; rw [A5.out] at h; exact h);clear HF;go_wp2_with fail;go_meet
     case rel => exact ⟨8, P, rfl, Am, lC, gI⟩
    by_cases hcs : xe P.t = true
    ·
     have HF := zh (S_ (q := q) jf Ah.out A5.out hcs);have q0 := jy.out.cell (i := 0) rfl;have q1 := jy.out.cell (i := 1) rfl;have q2 := jy.out.cell (i := 2) rfl;have q3 := jy.out.cell (i := 3) rfl;go_wp2_with fail;refine (Er.out w7 iK.out).mono ?_;rintro e w8 ⟨rfl, Be⟩;rw [hcs];have jj := zh (iK.out.trans (Be.mono nJ));have I3 := jy.out.below Be;have F9 := zh (ng.out.below (jj.out.mono mf));have q8 := I3.cell (i := 8) rfl;have q4 := I3.cell (i := 4) rfl;have f4 := I3.frozen 4;obtain ⟨rz, hrz⟩ : ∃ rz, ((P.res.length : Int) == 0) = rz := ⟨_, rfl⟩
     have Ts : decide (P.res.length = 0) = rz := by
      rw [← hrz]
      by_cases e : P.res.length = 0
      ·
       simp [e]
      have e2 : ¬ (P.res.length : Int) = 0 := by omega
      simp [e]
     have mA : iI w8 (w8.setCell ⟨b, 4, none⟩ (.bool rz)) B b 145 := iI.pts hlo ⟨_, _, I3⟩ [(4, .bool rz)];have o_ := zh (F9.out.jw mA);have sR := zh (show oI (w8.setCell ⟨b, 4, none⟩ (.bool rz)) b P.t.id P.t.lim P.t.ro ga gn gc rz kv nv (.slice ra P.res.length rc) P.bytes from (by have h := I3.set 4 (.bool rz); rw [zLW] at h; exact h));have lJ := zh ((eX.of (jj.out.mono mf) hBw).pts hlo [(4, .bool rz)] ⟨_, _, I3⟩ (by decide));clear Be I3 mA F9 jy jj q0 q1 q2 q3 iG oA rZ iK;go_wp2_with fail;go_ret;exact ⟨by rw [HF.out]; rfl, by rw [HF.out, Ts]; exact ⟨ga, gn, gc, L, kv, ks, nv, es, _, hlo, sR.out, ⟨o_.out.g, o_.out.gg, o_.out.k, o_.out.kk, o_.out.n, o_.out.nn, o_.out.r⟩⟩, lJ.out⟩
    have hcf : xe P.t = false := by simpa using hcs
    have HF := zh (vN (q := q) jf Ah.out (fun h => hcs h.2) (by rw [A5.out]; decide));have lC := zh (pU.out w7 iK.out);have gI := zh (eX.of (iK.out.mono mf) hBw);have q0 := jy.out.cell (i := 0) rfl;have q1 := jy.out.cell (i := 1) rfl;have q2 := jy.out.cell (i := 2) rfl;have q3 := jy.out.cell (i := 3) rfl;go_wp2_with fail;refine (Er.out w7 iK.out).mono ?_;rintro e w8 ⟨rfl, Be⟩;rw [hcf];have jj := zh (iK.out.trans (Be.mono nJ));have Tt := zh (pU.out w8 jj.out);have Tv := zh (eX.of (jj.out.mono mf) hBw);have HF9 := zh (show zT P q = (true, more P 9) by have h := HF.out; rw [A5.out] at h; exact h);clear Be lC gI q0 q1 q2 q3 HF;go_wp2_with fail;go_meet
    case rel => exact ⟨9, P, rfl, HF9, Tt, Tv⟩
   have jx := zh (oS.out.trans (eC.mono DG));have ia := zh (HX.out.below eC);have rS := zh (pY.out.below eC);have lC := zh (pU.out _ jx.out);clear eC jL HX pY HB oS c0 c1 c2 c3;generalize wr.alloc (.cells #[.int .i64 1, .func (.func 144) #[.pointer (some ⟨b, 0, none⟩)] #[], .func (.func 145) #[] #[], .func (.func 146) #[] #[.pointer (some ⟨cap, 0, none⟩)]] 192) = w6 at *;have y0 := HY.out.cell (i := 0) rfl;have x1 := ia.out.cell (i := 1) rfl;have hk2 : ¬ (1 : Int) = kind := fun h => pJ h.symm
   have gI := zh (eX.of (jx.out.mono mf) hBw);go_wp2_with fail;exact ⟨⟨1, 1, P, rfl, rfl, by decide, zh (fun _ => ⟨rfl, rfl, jx.out⟩), zh (fun h => absurd (.inr (.inl ⟨rfl, pJ⟩)) h), lC, ia, rS, gI⟩, by simp [intOf]⟩
  ·
   have c0 := pY.out.r.cell (i := 4) rfl;have c1 := pY.out.r.cell (i := 5) rfl;have c2 := pY.out.r.cell (i := 6) rfl;have c3 := pY.out.r.cell (i := 7) rfl
   by_cases Tw : kind = 1
   ·
    have mN := IY.out (by omega);have Tx := zh mN;clear mN IY AO;subst Tw;have x1 := HX.out.cell (i := 1) rfl;have eC := (aj wr.heap.size wr).alloc (ai _) (.cells #[.int .i64 2, .func (.func 149) #[.pointer (some ⟨b, 0, none⟩)] #[], .func (.func 150) #[] #[.pointer (some ⟨cap, 0, none⟩)], .func (.func 152) #[.pointer (some ⟨b, 0, none⟩)] #[]] 192);have DY : B ≤ wr.heap.size := ak hB (ak gV HB.out.size);have DL := zh (jL.out.below eC);have fQ := zh (HX.out.below eC);have Ty := zh (pY.out.below eC);have eN := zh (HB.out.step eC DY);have x1 := fQ.out.cell (i := 1) rfl;clear eC;go_wp2_with fail;exact ⟨⟨2, E, st, rfl, rfl, ai _, zh (fun h => by omega), zh (fun _ => Tx.out), DL, fQ, Ty, eN⟩, by simp [intOf]⟩
   obtain ⟨rfl, _, jN⟩ := AO.out (.inr (.inl ⟨rfl, Tw⟩));have oS := zh jN;clear jN IY;have DG : b3 ≤ wr.heap.size := ak gV oS.out.size;have eC := (aj wr.heap.size wr).alloc (ai _) (.cells #[.int .i64 2, .func (.func 149) #[.pointer (some ⟨b, 0, none⟩)] #[], .func (.func 150) #[] #[.pointer (some ⟨cap, 0, none⟩)], .func (.func 152) #[.pointer (some ⟨b, 0, none⟩)] #[]] 192);have HY := zh (dQ.new wr #[.int .i64 2, .func (.func 149) #[.pointer (some ⟨b, 0, none⟩)] #[], .func (.func 150) #[] #[.pointer (some ⟨cap, 0, none⟩)], .func (.func 152) #[.pointer (some ⟨b, 0, none⟩)] #[]] 192);go_upto_region 7 with fail;change Code.wp _ _ _ _ (wr.alloc (.cells #[.int .i64 2, .func (.func 149) #[.pointer (some ⟨b, 0, none⟩)] #[], .func (.func 150) #[] #[.pointer (some ⟨cap, 0, none⟩)], .func (.func 152) #[.pointer (some ⟨b, 0, none⟩)] #[]] 192));obtain ⟨bR, IZ⟩ : ∃ bR, wr.heap.size = bR := ⟨_, rfl⟩
   rw [IZ] at HY ⊢
   by_cases pJ : kind = 2
   ·
    have hk : kind = 2 := pJ;subst hk;clear pJ;have jx := zh (oS.out.trans (eC.mono DG));have DH := zh (Fj.out.below (jx.out.mono mf));have ia := zh (HX.out.below eC);have rS := zh (pY.out.below eC);clear eC jL HX pY HB oS;generalize wr.alloc (.cells #[.int .i64 2, .func (.func 149) #[.pointer (some ⟨b, 0, none⟩)] #[], .func (.func 150) #[] #[.pointer (some ⟨cap, 0, none⟩)], .func (.func 152) #[.pointer (some ⟨b, 0, none⟩)] #[]] 192) = w6 at *;have y0 := HY.out.cell (i := 0) rfl;have y1 := HY.out.cell (i := 1) rfl;have x0 := ia.out.cell (i := 0) rfl;have x1 := ia.out.cell (i := 1) rfl;have x2 := ia.out.cell (i := 2) rfl;have x3 := ia.out.cell (i := 3) rfl;have x4 := ia.out.cell (i := 4) rfl;have DI : b3 ≤ w6.heap.size := ak gV jx.out.size;go_wp2_with fail;refine (O7.out w6 jx.out).mono ?_;rintro e w7 ⟨rfl, nM⟩;have iK := zh (jx.out.trans (nM.mono DI));have jy := zh (DH.out.below nM)
    have iG := zh (ia.out.below nM);have oA := zh (rS.out.below nM);have rZ := zh (HY.out.below nM);have nJ : b3 ≤ w7.heap.size := ak gV iK.out.size;clear nM y0 y1 x0 x1 x2 x3 x4 jx DH ia rS HY DI;obtain ⟨cc, Cg⟩ : ∃ cc, xI P.t q = cc := ⟨_, rfl⟩
    have A5 := zh Cg;rw [Cg];clear Cg;rcases (show cc = 0 ∨ cc = 6 by rw [← A5.out]; exact tQ) with rfl | rfl
    ·
     have DJ : ∃ sb, (vI P.t key && (decide (0 < P.bytes) && decide (16384 < P.bytes + 24))) = sb := ⟨_, rfl⟩
     obtain ⟨sb, hsb⟩ := DJ;have sy := zh hsb;clear hsb;go_upto_region 13 with fail
     go_cut [73] (fun v wx => v = .bool sb ∧ Hid (Below w7.heap.size w7 wx))
     case first =>
      have Cl := zh (show ∀ W, Calls Tryz.prog 108 #[CN tk 2 key ck (.slice da dn dc)] W fun e w' => e = .returned (.int .i64 24) ∧ Below W.heap.size W w' from fun W => iz.out W);have A6 := zh (show ∀ W, Below b3 w W → dQ W cap #[.pointer (some ⟨b, 0, none⟩)] 143 → Calls Tryz.prog 150 #[CN tk 2 key ck (.slice da dn dc), .pointer (some ⟨cap, 0, none⟩)] W fun e w' => e = .returned (.bool (vI P.t key)) ∧ Below W.heap.size W w' from fun W hb hc => me.out W cap hb hc);have MQ := Fg;clear Ej O7 eY me Er iz O8 CA pU AO ng;obtain ⟨bz, DK⟩ : ∃ bz, P.bytes = bz := ⟨_, rfl⟩
      rw [DK] at jy sy h0 fP;clear DK;obtain ⟨tb, htb⟩ : ∃ tb, vI P.t key = tb := ⟨_, rfl⟩
      rw [htb] at A6 sy;clear htb
      cases tb
      ·
       have hs := sy.out;rw [Bool.false_and] at hs;subst hs;clear sy;have y2 := zB (rZ.out.cell (i := 2) rfl);have x0 := zB (iG.out.cell (i := 0) rfl);have x1 := zB (iG.out.cell (i := 1) rfl);have x2 := zB (iG.out.cell (i := 2) rfl);have x3 := zB (iG.out.cell (i := 3) rfl);have x4 := zB (iG.out.cell (i := 4) rfl);refine zC (by kernel_rfl) (by kernel_rfl) ?_
       repeat (go_big_quiet_step (first | exact zG (A6.out _ (iK.out.trans ((dU.h _).mono nJ)) (oA.out.c.below (dU.h _))) | exact zG (Cl.out _)))
       refine aC ?_;intro _ dY;obtain ⟨qq, dY⟩ := dY;subst dY;have ea := zh qq.h;clear y2 x0 x1 x2 x3 x4;generalize qq.w' = w8 at *;go_wp2_with fail;go_meet
       case rel => exact ⟨rfl, ea⟩
      by_cases hpos : 0 < bz
      ·
       obtain ⟨bg, rK⟩ : ∃ bg, decide (16384 < bz + 24) = bg := ⟨_, rfl⟩
       have mE := zh rK;have hs := sy.out;rw [aF hpos, rK] at hs;simp only [cE] at hs;subst hs;clear sy rK;have y2 := zB (rZ.out.cell (i := 2) rfl);have x0 := zB (iG.out.cell (i := 0) rfl);have x1 := zB (iG.out.cell (i := 1) rfl);have x2 := zB (iG.out.cell (i := 2) rfl);have x3 := zB (iG.out.cell (i := 3) rfl);have x4 := zB (iG.out.cell (i := 4) rfl);have q9 := zB (jy.out.cell (i := 9) rfl);have hg1 : decide (0 < bz) = true := aF hpos;have hg2 : decide (16384 < bz + 24) = bg := mE.out;refine zC (by kernel_rfl) (by kernel_rfl) ?_
       repeat (go_big_quiet_step (first | exact zG (A6.out _ (iK.out.trans ((dU.h _).mono nJ)) (oA.out.c.below (dU.h _))) | exact zG (Cl.out _)))
       refine aC ?_;intro _ dY;obtain ⟨qq, dY⟩ := dY;subst dY;have ea := zh qq.h;clear y2 x0 x1 x2 x3 x4 q9;generalize qq.w' = w8 at *;go_wp2_with fail;go_meet
       case rel => exact ⟨rfl, ea⟩
      obtain rfl : bz = 0 := by omega
      have hs := sy.out;rw [aD hpos] at hs;simp only [cE, Bool.false_and] at hs;subst hs;clear sy hpos;have y2 := zB (rZ.out.cell (i := 2) rfl);have x0 := zB (iG.out.cell (i := 0) rfl);have x1 := zB (iG.out.cell (i := 1) rfl);have x2 := zB (iG.out.cell (i := 2) rfl);have x3 := zB (iG.out.cell (i := 3) rfl);have x4 := zB (iG.out.cell (i := 4) rfl);have q9 := zB (jy.out.cell (i := 9) rfl);refine zC (by kernel_rfl) (by kernel_rfl) ?_
      repeat (go_big_quiet_step (first | exact zG (A6.out _ (iK.out.trans ((dU.h _).mono nJ)) (oA.out.c.below (dU.h _))) | exact zG (Cl.out _)))
      refine aC ?_;intro _ dY;obtain ⟨qq, dY⟩ := dY;subst dY;have ea := zh qq.h;clear y2 x0 x1 x2 x3 x4 q9;generalize qq.w' = w8 at *;go_wp2_with fail;go_meet
      case rel => exact ⟨rfl, ea⟩
     obtain ⟨rfl, lX⟩ := fZ;generalize wc = w8 at *;have jj := zh (iK.out.trans (lX.out.mono nJ));have nZ := zh (iG.out.below lX.out);have Cm := zh (oA.out.below lX.out);have FP := zh (rZ.out.below lX.out);clear lX iG oA rZ jy iK nJ
     cases sb
     ·
      have HF := zh (vM (q := q) jf Ah.out A5.out (show ¬ (vI P.t q.key = true ∧ 0 < P.bytes ∧ 16384 < P.bytes + 24) from by
       have hs := sy.out
       intro hh
       have Cu : (vI P.t key && (decide (0 < P.bytes) && decide (16384 < P.bytes + 24))) = true := by simp only [aM, aU]; exact ⟨by rw [← OV.out]; exact hh.1, hh.2⟩
       rw [Cu] at hs
       cases hs))
      have y3 := FP.out.cell (i := 3) rfl;have x0 := nZ.out.cell (i := 0) rfl;have x1 := nZ.out.cell (i := 1) rfl;have x2 := nZ.out.cell (i := 2) rfl;have x3 := nZ.out.cell (i := 3) rfl;have x4 := nZ.out.cell (i := 4) rfl;have I1 : b3 ≤ w8.heap.size := ak gV jj.out.size;go_wp2_with fail;refine (CA.out w8 jj.out).mono ?_;rintro e w9 ⟨rfl, sx, fP⟩;have lJ := zh ((eX.of (jj.out.mono mf) hBw).trans fP);have mJ := zh (fP.box nZ.out (by decide));have I2 := zh (Cm.out.kept fP);have sR := zh sx;clear sx fP nZ Cm FP jj y3 x0 x1 x2 x3 x4 I1;go_wp2_with fail;exact ⟨⟨2, 0, _, rfl, rfl, by decide, zh (fun h => by omega), zh (fun _ => HF.out), sR, mJ, I2, lJ⟩, by simp [intOf]⟩
     have HF := zh (qp (q := q) jf Ah.out A5.out (show vI P.t q.key = true ∧ 0 < P.bytes ∧ 16384 < P.bytes + 24 from by
      have hs := sy.out
      simp only [aM, aU] at hs
      exact ⟨by rw [OV.out]; exact hs.1, hs.2⟩))
     have lC := zh (pU.out w8 jj.out);go_wp2_with fail;go_ret;exact ⟨by rw [HF.out]; rfl, by rw [HF.out]; exact lC.out, eX.of (jj.out.mono mf) hBw⟩
    have HF := zh (vX (q := q) jf Ah.out A5.out);have lC := zh (pU.out w7 iK.out);have gI := zh (eX.of (iK.out.mono mf) hBw);go_wp2_with fail;go_meet
    case rel => exact ⟨6, P, rfl, HF, lC, gI⟩
   have jx := zh (oS.out.trans (eC.mono DG));have ia := zh (HX.out.below eC);have rS := zh (pY.out.below eC);have lC := zh (pU.out _ jx.out);clear eC jL HX pY HB oS c0 c1 c2 c3;generalize wr.alloc (.cells #[.int .i64 2, .func (.func 149) #[.pointer (some ⟨b, 0, none⟩)] #[], .func (.func 150) #[] #[.pointer (some ⟨cap, 0, none⟩)], .func (.func 152) #[.pointer (some ⟨b, 0, none⟩)] #[]] 192) = w6 at *;have y0 := HY.out.cell (i := 0) rfl;have x1 := ia.out.cell (i := 1) rfl;have hk2 : ¬ (2 : Int) = kind := fun h => pJ h.symm
   have gI := zh (eX.of (jx.out.mono mf) hBw);go_wp2_with fail;exact ⟨⟨2, 1, P, rfl, rfl, by decide, zh (fun _ => ⟨rfl, rfl, jx.out⟩), zh (fun h => absurd (.inr (.inr ⟨rfl, Tw, pJ⟩)) h), lC, ia, rS, gI⟩, by simp [intOf]⟩
  by_cases Tz : kind ≠ 1 ∧ kind ≠ 2
  ·
   obtain ⟨rfl, _, jN⟩ := AO.out (.inr (.inr ⟨rfl, Tz⟩));have lC := zh (pU.out _ jN);have HF := zh (vp (P := P) (q := q) jf (by rw [Ah.out]; exact Tz.1) (by rw [Ah.out]; exact Tz.2));clear AO IY jN;go_wp2_with fail;go_meet
   case rel => exact ⟨1, P, rfl, HF, lC, HB⟩
  have HF := zh (IY.out (fun h => by omega));clear AO IY;go_wp2_with fail;go_meet
  case rel => exact ⟨E, st, rfl, HF, jL, HB⟩
 obtain ⟨E, st, rfl, HF, jL, HB⟩ := fZ;generalize wc = v1 at *;obtain ⟨nH, nI, gc', L', IF, u_, Dy, es', O4, I4, TA, TB⟩ := jL.out;obtain ⟨ra', rc', TC, ajn, ajo, _⟩ := zO TB.r;subst TC;have aal : st.res.length ≤ 16 := by
  have h := (uW P q Tr).1;rw [HF.out] at h;unfold more at h;simp only [aA, aY, dC] at h;omega
 have iB : B ≤ v1.heap.size := ak hBw HB.out.size;have q8 := TA.cell (i := 8) rfl;have eC := (aj v1.heap.size v1).alloc (ai _) (.cells #[.int .i64 E] 39);have DA := zh (TA.below eC);have En := zh (TB.below eC);have B8 := zh (HB.out.step eC iB);have h_ := zh En.out.r;have hBa := ak iB eC.size;clear eC TA TB jL HB Ej O7 eY me Er iz O8 CA pU fQ eN pY Fj ng;go_wp2_with (at_builtin; go_must (refine zd (n := st.res.length) (m := 1) rfl (.tmp 84) (.tmp 86) 69 rfl zLR B rfl h_.out rfl (Rd.np v1.heap.size v1 rfl 1 [.int .i64 E] 39 1 rfl (by decide)) (fun u hu => by simp only [cA, cB, or_false] at hu; rw [hu]; rfl) (by unfold maxLen; omega) (by omega) hBa ?_); intro v3 w3 d_ eW mH; clear mH; obtain ⟨oa, oc, ev, _, _, _⟩ := zO d_; subst ev; have sx := DA.out.gl (gC.row h_.out eW (ai B)) (by decide); have c8 := sx.cell (i := 8) rfl; have f8 := sx.frozen 8)
 have mA : iI w3 (w3.setCell ⟨b, 8, none⟩ (.slice oa (st.res.length + 1) oc)) B b 145 := iI.pts I4 ⟨_, _, sx⟩ [(8, .slice oa (st.res.length + 1) oc)];have o_ := zh ((En.out.res E eW d_).1.jw mA);have sR := zh (show oI (w3.setCell ⟨b, 8, none⟩ (.slice oa (st.res.length + 1) oc)) b st.t.id st.t.lim st.t.ro nH nI gc' st.ep IF Dy (.slice oa (st.res.length + 1) oc) st.bytes from (by have h := sx.set 8 (.slice oa (st.res.length + 1) oc); rw [zLt] at h; exact h));have lJ := zh ((B8.out.own h_.out hBa eW (by decide)).pts I4 [(8, .slice oa (st.res.length + 1) oc)] ⟨_, _, sx⟩ (by decide));clear d_ eW sx mA c8 f8 q8;go_wp2_with fail;go_ret;exact ⟨by rw [HF.out]; rfl, by rw [HF.out]; exact ⟨nH, nI, gc', L', IF, u_, Dy, es', _, I4, sR.out, o_.out⟩, lJ.out⟩
end Go.Proofs.YtcgfilmmokmdjaaGreat
