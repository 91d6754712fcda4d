/- A part of the walk. -/
import Derived.Test.YtcgfilmmokmdjaaGreatQAV
import Derived.Test.YtcgfilmmokmdjaaGreatQAP
import Derived.Test.YtcgfilmmokmdjaaGreatQAL
import Derived.Test.YtcgfilmmokmdjaaGreatQAU
import Derived.Test.YtcgfilmmokmdjaaGreatQAW
import Derived.Test.YtcgfilmmokmdjaaGreatQAM
import Derived.Test.YtcgfilmmokmdjaaGreatHj
set_option maxRecDepth 100000
set_option maxHeartbeats 32000000
namespace Go.Proofs.YtcgfilmmokmdjaaGreat
open Go.RowKit
theorem zJm (w : World) (i l : Int) (r : Bool) (a : Option Addr) (n c : Nat) (P5 : Array Value) (t u v : TypeId) : ∃ W, ((w.alloc (.cells (zK i l r a n c) t)).alloc (.cells P5 u)).alloc (.cells (zK 0 0 false none 0 0) v) = W ∧ dQ W w.heap.size (zK i l r a n c) t ∧ dQ W (w.heap.size + 1) P5 u ∧ dQ W (w.heap.size + 1 + 1) (zK 0 0 false none 0 0) v ∧ Below w.heap.size w W := by
 have h1 := zN w i l r a n c t;have h2 := (aj (w.alloc (.cells (zK i l r a n c) t)).heap.size (w.alloc (.cells (zK i l r a n c) t))).alloc (ai _) (.cells P5 u);have h3 := zN ((w.alloc (.cells (zK i l r a n c) t)).alloc (.cells P5 u)) 0 0 false none 0 0 v;refine ⟨_, rfl, ((dQ.new w _ t).below h2).below h3, ?_, ?_, zA (zA h1 h2) h3⟩
 ·
  have := (dQ.new (w.alloc (.cells (zK i l r a n c) t)) P5 u).below h3
  rwa [cG] at this
 have := dQ.new ((w.alloc (.cells (zK i l r a n c) t)).alloc (.cells P5 u)) (zK 0 0 false none 0 0) v
 rwa [cG, cG] at this
theorem fl.TN {W : World} {b : Nat} {t : TypeId} {n' r md z : Int} {s : Sl} {l g : Int} {a : Option Addr} {n c : Nat} {L : List GP} (h : fl W (.slice a n c) L) (hne : ∀ x, a = some x → x.block ≠ b) (hb : dQ W b (zW n' r md z s l g) t) (vs : List (Nat × Value)) : fl (pts W b vs) (.slice a n c) L := by
 refine ⟨⟨h.r.1, ?_⟩, fun p hp => (h.m p hp).gen hb vs⟩;obtain ⟨h1, a', cap, e, h3, h4, h5, h6⟩ := h.r.2;injection e with e1 e2 e3;subst e1 e2 e3;refine ⟨h1, _, _, rfl, h3, h4, h5, fun hp => ?_⟩;obtain ⟨b', off, e2, hc⟩ := h6 hp;exact ⟨b', off, e2, fun j u hu => (zt (p := ⟨b', off + j, none⟩) (show b' ≠ b from hne _ e2) vs W).trans (hc j u hu)⟩
theorem fl.lo {W : World} {a : Option Addr} {n c : Nat} {L : List GP} (h : fl W (.slice a n c) L) (hn : 0 < n) : ∀ x, a = some x → x.block < W.heap.size := by
 obtain ⟨h1, a', cap, e, h3, h4, h5, h6⟩ := h.r.2;injection e with e1 e2 e3;subst e1;intro x hx;obtain ⟨b', off, e4, hc⟩ := h6 (by rw [h1]; omega);rw [hx] at e4;injection e4 with e4;subst e4;have hl : 0 < (L.flatMap gP).length := by rw [h1]; omega
 exact cH W _ (hc 0 _ (aB hl))
theorem zFK (s : eE) (a : Option Addr) (n c : Nat) (L : List GP) (ep : Bool) (tk : Int) (kv nv rv : Value) (ks : List KP) (es : List (Nd × Value)) (w : World) (h : fl w (.slice a n c) L) (hg : dV L = s.dP) (hl : eV 700 s.dP) (hn : n ≤ 1000000)
  (hk : rR w kv ks) (hkl : ∀ p ∈ ks, p.2.2.length ≤ 1000) (hnd : mK w nv es) (hel : es.length ≤ 300) (MO : ∃ a n c, rv = .slice a n c) :
  Calls Tryz.prog 31 #[zZ s.id s.lim s.ro a n c, Ob ep tk kv nv rv] w (ig w (wg s ep (gT ks) (es.map (·.1)))) := by
 obtain ⟨ra, rn, rc, rfl⟩ := MO;obtain ⟨ka, kc, rfl, pJ, hk2⟩ := hk.shape;obtain ⟨na, nc, rfl, _, _⟩ := hnd.shape;obtain ⟨i, l, r, g⟩ := s;dsimp only at hg hl ⊢;subst hg;have fN : L.length = n := by
  obtain ⟨_, _, e, _⟩ := h.shape;injection e with _ e _; exact e.symm
 have hm : (gT ks).length = ks.length := vm ks;have hmx : ks.length ≤ 9223372036854775807 := ak pJ hk2;have Iy := zh hk;have NM := zh hnd;have HL := zh hl;have Dt := zh hkl;have jW := zh (show (dV L).length = n by rw [zj, fN]);generalize hAP : wg ⟨i, l, r, dV L⟩ ep (gT ks) (es.map (·.1)) = AP at *;have Gk := zh hAP;obtain ⟨W0, eR, fa, O9, hbz, fu⟩ := zJm w i l r a n c (xD ep tk (.slice ka ks.length kc) (.slice na es.length nc) (.slice ra rn rc)) 27 71 27;have HX := zh fa;have jL := zh O9;have HZ := zh hbz;have HB := zh fu;have HR := zh (h.below fu);have ng := zh h;clear h hk hnd hl hkl hAP fa O9 hbz fu pJ hk2 fN
 go_enter Tryz.func31, Tryz.ntmps31
 go_upto_region 1 with fail;clear eR;have HT := zh (X9 i l r a n c L W0 HR.out (wm (HL.out.mono (by decide)) (ai _)));obtain ⟨k0, k1, k2, k3⟩ := (dQ.gX HX.out).q
 by_cases hv : zg ⟨i, l, r, dV L⟩ = true
 ·
  have hV := (zR _).1 hv;have hn0 : 0 < n := by have := hV.len; dsimp only at this; rw [jW.out] at this; omega
  rw [show uG ⟨i, l, r, dV L⟩ = (0, zS ⟨i, l, r, dV L⟩) from X6 hV] at HT;have MI := zh (show ∀ j, j < 8 → ((zS ⟨i, l, r, dV L⟩).m.st j).length ≤ 700 from HL.out _ (uX hV))
  have FI := zh (show AP = if ep = true then xO ⟨i, l, r, dV L⟩ else if (zi (gT ks) ⟨i, l, r, dV L⟩).2 = 0 then (if (yt (zS ⟨i, l, r, dV L⟩) (es.map (·.1))).1 = 0 then yb (zi (gT ks) ⟨i, l, r, dV L⟩).1 (yt (zS ⟨i, l, r, dV L⟩) (es.map (·.1))).2 else (xP, (yt (zS ⟨i, l, r, dV L⟩) (es.map (·.1))).1)) else (xP, (zi (gT ks) ⟨i, l, r, dV L⟩).2) from by
   rw [← Gk.out]; unfold wg; rw [ag hv])
  clear hV hv Gk;generalize zS ⟨i, l, r, dV L⟩ = tg at *;obtain ⟨tn, tr, tm, tz, ⟨tf, tL, tG⟩⟩ := tg;dsimp only at HT MI;go_wp2_with fail;refine HT.out.mono ?_;rintro e w1 ⟨⟨sT, rfl, ho⟩, hb⟩;dsimp only at ho ⊢;clear k0 k1 k2 k3;replace HX := zh (HX.out.below hb);replace jL := zh (jL.out.below hb);replace HZ := zh (HZ.out.below hb);replace HR := zh (HR.out.below hb);replace HB := zh (zA HB.out hb);have BF := zh (show fp w1 sT tf from ho.rd);have MV := HZ.out.lt;have HNa := zh (fun x hx => Nat.lt_trans (ng.out.lo hn0 x hx) (show w.heap.size < w1.heap.size by omega));clear ho hb HT;go_upto_region 2 with fail;change Code.wp _ _ _ _ (w1.alloc (.cells (zW tn tr tm tz sT tL tG) 38));have eD := zQ w1 tn tr tm tz sT tL tG 38;have HG := zh (dQ.new w1 (zW tn tr tm tz sT tL tG) 38);replace BF := zh (BF.out.below eD);replace HX := zh (HX.out.below eD);replace jL := zh (jL.out.below eD)
  replace HZ := zh (HZ.out.below eD);replace HR := zh (HR.out.below eD);replace HB := zh (zA HB.out eD);clear eD;generalize w1.alloc (.cells (zW tn tr tm tz sT tL tG) 38) = w2 at *;generalize w1.heap.size = bG at *;have p0 : w2.cell? ⟨w.heap.size + 1, 0, none⟩ = some (.bool ep) := dQ.cell jL.out rfl
  cases ep
  ·
   have sr := zh (FI.out.trans (ah (by decide)));clear FI;have p2 : w2.cell? ⟨w.heap.size + 1, 2, none⟩ = some (.slice ka ks.length kc) := dQ.cell jL.out rfl;go_wp2_with fail;clear p0 p2
   go_loopw [30] (fun iv V => ∃ (k : Nat) (t : eE) (a' : Option Addr) (n' c' : Nat) (L' : List GP), iv = .int .i64 (k : Int) ∧ k ≤ ks.length ∧ Hid (zi ((gT ks).take k) ⟨i, l, r, dV L⟩ = (t, 0)) ∧ Hid (dQ V w.heap.size (zK t.id t.lim t.ro a' n' c') 27) ∧ Hid (fl V (.slice a' n' c') L') ∧ Hid (dV L' = t.dP) ∧ Hid (∀ x, a' = some x → x.block ≠ bG) ∧ Hid (dQ V bG (zW tn tr tm tz sT tL tG) 38) ∧ Hid (fp V sT tf) ∧ Hid (dQ V (w.heap.size + 1) (xD false tk (.slice ka ks.length kc) (.slice na es.length nc) (.slice ra rn rc)) 71) ∧ Hid (dQ V (w.heap.size + 1 + 1) (zK 0 0 false none 0 0) 27) ∧ Hid (Below w.heap.size w V)) (fun iv _ => ks.length - (intOf iv).toNat)
   case atStart => exact ⟨0, ⟨i, l, r, dV L⟩, a, n, c, L, rfl, au _, zh rfl, HX, HR, zh rfl, zh (fun x hx => Nat.ne_of_lt (HNa.out x hx)), HG, BF, jL, HZ, HB⟩
   clear HX HR HG BF jL HZ HB;obtain ⟨k, t, a', n', c', L', rfl, Gu, EA, HX, HR, Pa, HNb, HG, BF, jL, HZ, HB⟩ := eT
   have HtL := zh (show eV 700 t.dP from by
    have := zBg ((gT ks).take k) ⟨i, l, r, dV L⟩ HL.out
    rw [EA.out] at this; exact this)
   have hn' : n' ≤ 1000000 := by
    have h1 := zCm ((gT ks).take k) ⟨i, l, r, dV L⟩;rw [EA.out] at h1;dsimp only at h1;obtain ⟨_, _, e, _⟩ := HR.out.shape;injection e with _ e _;rw [← Pa.out, zj, jW.out] at h1;omega
   by_cases hlt : k < ks.length
   ·
    have i1 : (k : Int) < (ks.length : Int) := by omega
    obtain ⟨bk, ok, rfl, hU, c0, c1⟩ := (Iy.out.below HB.out).at hlt;have MW := Dt.out _ (zEk hlt);have BP := zh (fun h2 => zEO (l := gT ks) (k := k) (by rw [hm]; exact hlt) (s := ⟨i, l, r, dV L⟩) (by rw [EA.out]) h2);have BR := zh (fun h2 => zFr (l := gT ks) (k := k) (by rw [hm]; exact hlt) (s := ⟨i, l, r, dV L⟩) (by rw [EA.out]) h2);rw [EA.out, zIO] at BP BR;dsimp only at BP BR;generalize jh ks k = kp at *;obtain ⟨num, kv9, keys⟩ := kp;dsimp only at hU c0 c1 MW BP BR;obtain ⟨Kc, Ke, rfl, _, _⟩ := hU.gq;have HU := zh hU;clear hU;go_upto_region 9 with fail;clear c0 c1;change Code.wp _ _ _ _ (wr.alloc (.cells #[.int .i64 num, .slice Kc keys.length Ke] 89));have eD := (aj wr.heap.size wr).alloc (ai _) (.cells #[.int .i64 num, .slice Kc keys.length Ke] 89);have BG := zh (dQ.new wr #[.int .i64 num, .slice Kc keys.length Ke] 89);replace HU := zh (ik.below HU.out eD)
    replace HR := zh (HR.out.below eD);replace HX := zh (HX.out.below eD);replace jL := zh (jL.out.below eD);replace HZ := zh (HZ.out.below eD);replace HG := zh (HG.out.below eD);replace BF := zh (BF.out.below eD);replace HB := zh (zA HB.out eD);clear eD;generalize wr.alloc (.cells #[.int .i64 num, .slice Kc keys.length Ke] 89) = v0 at *;generalize wr.heap.size = b9 at *;have Ck := zh (Za t a' n' c' L' v0 HR.out Pa.out (HtL.out.mono (by decide)) hn' num (.slice Kc keys.length Ke) keys HU.out MW);have y0 : v0.cell? ⟨b9, 0, none⟩ = some (.int .i64 num) := dQ.cell BG.out rfl;have y1 : v0.cell? ⟨b9, 1, none⟩ = some (.slice Kc keys.length Ke) := dQ.cell BG.out rfl;obtain ⟨k0, k1, k2, k3⟩ := (dQ.gX HX.out).q;generalize yX t num keys = KS at *;obtain ⟨⟨ui, ul, ur, ug⟩, ue⟩ := KS;go_wp2_with fail;refine Ck.out.mono ?_;rintro e v1 ⟨⟨xa, xn, xc, xL, rfl, H5, oB⟩, hb⟩;dsimp only at oB BP BR ⊢
    clear y0 y1 k0 k1 k2 k3 BG HU Ck;have lj := zh H5.rd
    have HNx := zh (show ∀ x, xa = some x → x.block ≠ bG from fun x hx => by
     have h9 := (H5.row.lt x.block (by rw [hx]; rfl)).1
     have h8 := HG.out.lt
     omega)
    have iC := zh oB;replace HX := zh (HX.out.below hb);replace jL := zh (jL.out.below hb);replace HZ := zh (HZ.out.below hb);replace HG := zh (HG.out.below hb);replace BF := zh (BF.out.below hb);replace HB := zh (zA HB.out hb);clear hb H5 oB HR;obtain ⟨k0, k1, k2, k3⟩ := (dQ.gX HX.out).q;have kf := (dQ.gX HX.out).f;go_upto_region 10 with fail;clear k0 k1 k2 k3 kf;change Code.wp _ _ _ _ (pts v1 w.heap.size (zJ ui ul ur xa xn xc));have fk := zh (dQ.rN HX.out ui ul ur xa xn xc);replace lj := zh (fl.gX lj.out HX.out (zJ ui ul ur xa xn xc));replace BF := zh (fp.gX BF.out HX.out (zJ ui ul ur xa xn xc));replace HG := zh (dQ.ek (c := w.heap.size) (by omega) (zJ ui ul ur xa xn xc) HG.out);replace jL := zh (dQ.ek (c := w.heap.size) (by omega) (zJ ui ul ur xa xn xc) jL.out);replace HZ := zh (dQ.ek (c := w.heap.size) (by omega) (zJ ui ul ur xa xn xc) HZ.out)
    replace HB := zh (zD (B := w.heap.size) (b := w.heap.size) (ai _) (zJ ui ul ur xa xn xc) HB.out);clear HX;generalize pts v1 w.heap.size (zJ ui ul ur xa xn xc) = v2 at *
    by_cases Pb : ue = 0
    ·
     subst Pb;have HKn := zh (BP.out rfl);go_wp2_with fail;exact ⟨⟨k + 1, ⟨ui, ul, ur, ug⟩, xa, xn, xc, xL, by go_num, by omega, HKn, fk, lj, iC, HNx, HG, BF, jL, HZ, HB⟩, by simp [intOf]; omega⟩
    have hz : (ue == 0) = false := beq_eq_false_iff_ne.2 Pb;have Ci := zh (show AP = (xP, ue) from by rw [sr.out, BR.out Pb]; exact ah Pb);have rT := zh (dQ.gX HZ.out);obtain ⟨z0, z1, z2, z3⟩ := rT.out.q;have zf := rT.out.f;go_wp2_with fail;change bodyPost _ _ _ _ _ (pts v2 (w.heap.size + 1 + 1) (zJ 0 0 false none 0 0));have hby := rT.out.all 0 0 false none 0 0;have ea := zh (zD (B := w.heap.size) (b := (w.heap.size + 1 + 1)) (by omega) (zJ 0 0 false none 0 0) HB.out);generalize pts v2 (w.heap.size + 1 + 1) (zJ 0 0 false none 0 0) = V at *;exact aw (v := .tuple #[zZ 0 0 false none 0 0, .int .i64 ue]) (by simp [results, Tryz.results31, go_sem, hby.c0, hby.c1, hby.c2, hby.c3]) rfl (by rw [Ci.out]; exact ig.no ea.out)
   have i1 : ¬ (k : Int) < (ks.length : Int) := by omega
   have hke : (gT ks).take k = gT ks := aS (by rw [hm]; omega)
   have Ci := zh (show AP = if (yt ⟨tn, tr, tm, tz, ⟨tf, tL, tG⟩⟩ (es.map (·.1))).1 = 0 then yb t (yt ⟨tn, tr, tm, tz, ⟨tf, tL, tG⟩⟩ (es.map (·.1))).2 else (xP, (yt ⟨tn, tr, tm, tz, ⟨tf, tL, tG⟩⟩ (es.map (·.1))).1) from by
    have h1 := EA.out
    rw [hke] at h1
    rw [sr.out, h1]; exact ag rfl)
   clear sr EA hke;have oJ := zh (fun W (hb : Below wr.heap.size wr W) => Xp ⟨tn, tr, tm, tz, ⟨tf, tL, tG⟩⟩ sT (.slice na es.length nc) es 700 W (BF.out.below hb) MI.out ((NM.out.below HB.out).below hb) (by omega));have N4 := zh (show ∀ j, j < 8 → ((yt ⟨tn, tr, tm, tz, ⟨tf, tL, tG⟩⟩ (es.map (·.1))).2.m.st j).length ≤ 10000 from fun j hj => ak (qJ (K := 700) (g := ⟨tn, tr, tm, tz, ⟨tf, tL, tG⟩⟩) (l := es.map (·.1)) MI.out j hj) (by rw [aI]; omega));generalize yt ⟨tn, tr, tm, tz, ⟨tf, tL, tG⟩⟩ (es.map (·.1)) = AG at *;obtain ⟨ae, ⟨gn, gr, gm, gz, ⟨gf, gL, gG⟩⟩⟩ := AG;dsimp only at oJ N4 Ci;replace oJ := zh (oJ.out wr (aj _ _));have p3 : wr.cell? ⟨w.heap.size + 1, 3, none⟩ = some (.slice na es.length nc) := dQ.cell jL.out rfl;obtain ⟨g0, g1, g2, g3, g4, g5, g6, g7, g8, g9, g10, g11, g12, g13⟩ := (dQ.gen HG.out).q;go_wp2_with fail;refine oJ.out.mono ?_;rintro e v1 ⟨⟨s9, rfl, ho⟩, hb⟩
   dsimp only at ho ⊢;clear p3;clear g0 g1 g2 g3 g4 g5 g6 g7 g8 g9 g10 g11 g12 g13;replace HR := zh (HR.out.below hb);replace HX := zh (HX.out.below hb);replace HZ := zh (HZ.out.below hb);replace HG := zh (HG.out.below hb);replace HB := zh (zA HB.out hb);have Fm := zh (show fp v1 s9 gf from ho.rd);clear ho hb oJ BF jL;have gff := (dQ.gen HG.out).f;obtain ⟨g0, g1, g2, g3, g4, g5, g6, g7, g8, g9, g10, g11, g12, g13⟩ := (dQ.gen HG.out).q;go_upto_region 14 with fail;clear gff;clear g0 g1 g2 g3 g4 g5 g6 g7 g8 g9 g10 g11 g12 g13;change Code.wp _ _ _ _ (pts v1 bG (zL gn gr gm gz s9 gL gG));have pR := zh (dQ.nh HG.out gn gr gm gz s9 gL gG);replace Fm := zh (fp.gen Fm.out HG.out (zL gn gr gm gz s9 gL gG));replace HR := zh (fl.TN HR.out HNb.out HG.out (zL gn gr gm gz s9 gL gG));replace HX := zh (dQ.ek (c := bG) (by omega) (zL gn gr gm gz s9 gL gG) HX.out)
   replace HZ := zh (dQ.ek (c := bG) (by omega) (zL gn gr gm gz s9 gL gG) HZ.out);replace HB := zh (zD (B := w.heap.size) (b := bG) (by omega) (zL gn gr gm gz s9 gL gG) HB.out);clear HG;generalize pts v1 bG (zL gn gr gm gz s9 gL gG) = v2 at *
   by_cases TP : ae = 0
   ·
    subst TP;have Pc := zh (Ci.out.trans (ag rfl));clear Ci;obtain ⟨ti, tl, tro, tg9⟩ := t;dsimp only at Pa HX Pc;obtain rfl : tg9 = dV L' := Pa.out.symm;have Ak := zh (YR ti tl tro a' n' c' L' v2 HR.out (wm (HtL.out.mono (by decide)) (ai _)) (⟨gn, gr, gm, gz, ⟨gf, gL, gG⟩⟩, s9) Fm.out N4.out);dsimp only at Ak;generalize yb ⟨ti, tl, tro, dV L'⟩ ⟨gn, gr, gm, gz, ⟨gf, gL, gG⟩⟩ = CS at *;obtain ⟨⟨ci, cl, cr, cg⟩, ce⟩ := CS;obtain ⟨g0, g1, g2, g3, g4, g5, g6, g7, g8, g9, g10, g11, g12, g13⟩ := (dQ.gen pR.out).q;obtain ⟨k0, k1, k2, k3⟩ := (dQ.gX HX.out).q;go_wp2_with fail;refine Ak.out.mono ?_;rintro e v3 ⟨⟨xa, xn, xc, xL, rfl, H5, oB⟩, hb⟩;dsimp only at oB ⊢;clear k0 k1 k2 k3;clear g0 g1 g2 g3 g4 g5 g6 g7 g8 g9 g10 g11 g12 g13;have lj := zh H5.rd;have iC := zh oB;replace HZ := zh (HZ.out.below hb);replace HB := zh (zA HB.out hb);clear hb H5 oB Ak pR Fm;have rT := zh (dQ.gX HZ.out)
    obtain ⟨z0, z1, z2, z3⟩ := rT.out.q;have zf := rT.out.f;go_wp2_with fail;change bodyPost _ _ _ _ _ (pts v3 (w.heap.size + 1 + 1) (zJ ci cl cr xa xn xc));have sq := zh (fl.gX lj.out HZ.out (zJ ci cl cr xa xn xc));have hby := rT.out.all ci cl cr xa xn xc;have ea := zh (zD (B := w.heap.size) (b := (w.heap.size + 1 + 1)) (by omega) (zJ ci cl cr xa xn xc) HB.out);generalize pts v3 (w.heap.size + 1 + 1) (zJ ci cl cr xa xn xc) = V at *;exact aw (v := .tuple #[zZ ci cl cr xa xn xc, .int .i64 ce]) (by simp [results, Tryz.results31, go_sem, hby.c0, hby.c1, hby.c2, hby.c3]) rfl (by rw [Pc.out]; exact ⟨⟨xa, xn, xc, xL, rfl, sq.out, iC.out⟩, ea.out⟩)
   have hz : (ae == 0) = false := beq_eq_false_iff_ne.2 TP;have Pc := zh (show AP = (xP, ae) from Ci.out.trans (ah TP));have rT := zh (dQ.gX HZ.out);obtain ⟨z0, z1, z2, z3⟩ := rT.out.q;have zf := rT.out.f;go_wp2_with fail;change bodyPost _ _ _ _ _ (pts v2 (w.heap.size + 1 + 1) (zJ 0 0 false none 0 0));have hby := rT.out.all 0 0 false none 0 0;have ea := zh (zD (B := w.heap.size) (b := (w.heap.size + 1 + 1)) (by omega) (zJ 0 0 false none 0 0) HB.out);generalize pts v2 (w.heap.size + 1 + 1) (zJ 0 0 false none 0 0) = V at *;exact aw (v := .tuple #[zZ 0 0 false none 0 0, .int .i64 ae]) (by simp [results, Tryz.results31, go_sem, hby.c0, hby.c1, hby.c2, hby.c3]) rfl (by rw [Pc.out]; exact ig.no ea.out)
  have sr := zh (FI.out.trans (ag rfl));clear FI;have Er := zh (zJa i l r a n c L w2 HR.out (wm (HL.out.mono (by decide)) (ai _)));obtain ⟨k0, k1, k2, k3⟩ := (dQ.gX HX.out).q;go_wp2_with fail;refine Er.out.mono ?_;rintro e w3 ⟨⟨xa, xn, xc, xL, rfl, DM, oB⟩, hb⟩;clear k0 k1 k2 k3;generalize xO ⟨i, l, r, dV L⟩ = RS at *;obtain ⟨⟨ri, rl, rr, rg⟩, re⟩ := RS;dsimp only at oB ⊢;have lj := zh DM;have iC := zh oB;replace HZ := zh (HZ.out.below hb);replace HB := zh (zA HB.out hb);clear hb DM oB;have rT := zh (dQ.gX HZ.out);obtain ⟨z0, z1, z2, z3⟩ := rT.out.q;have zf := rT.out.f;go_wp2_with fail;change bodyPost _ _ _ _ _ (pts w3 (w.heap.size + 1 + 1) (zJ ri rl rr xa xn xc));have sq := zh (fl.gX lj.out HZ.out (zJ ri rl rr xa xn xc));have hby := rT.out.all ri rl rr xa xn xc;have ea := zh (zD (B := w.heap.size) (b := (w.heap.size + 1 + 1)) (by omega) (zJ ri rl rr xa xn xc) HB.out)
  generalize pts w3 (w.heap.size + 1 + 1) (zJ ri rl rr xa xn xc) = V at *;exact aw (v := .tuple #[zZ ri rl rr xa xn xc, .int .i64 re]) (by simp [results, Tryz.results31, go_sem, hby.c0, hby.c1, hby.c2, hby.c3]) rfl (by rw [sr.out]; exact ⟨⟨xa, xn, xc, xL, rfl, sq.out, iC.out⟩, ea.out⟩)
 have FI := zh (show AP = (xP, 1) from by rw [← Gk.out]; unfold wg; rw [ah hv]);rw [show uG ⟨i, l, r, dV L⟩ = (1, fT) from by unfold uG; rw [ah hv]] at HT;clear hv Gk;go_wp2_with fail;refine HT.out.mono ?_;rintro e w1 ⟨⟨sT, rfl, ho⟩, hb⟩;dsimp only at ho ⊢;replace HZ := zh (HZ.out.below hb);replace HB := zh (zA HB.out hb);clear ho hb HT k0 k1 k2 k3;go_upto_region 2 with fail;change Code.wp _ _ _ _ (w1.alloc (.cells (zW fT.num fT.rev fT.mode fT.size sT fT.m.live fT.m.dR) 38));have eD := zQ w1 fT.num fT.rev fT.mode fT.size sT fT.m.live fT.m.dR 38;replace HZ := zh (HZ.out.below eD);replace HB := zh (zA HB.out eD);clear eD;generalize w1.alloc (.cells (zW fT.num fT.rev fT.mode fT.size sT fT.m.live fT.m.dR) 38) = w2 at *;have rT := zh (dQ.gX HZ.out);obtain ⟨z0, z1, z2, z3⟩ := rT.out.q;have zf := rT.out.f;go_wp2_with fail
 change bodyPost _ _ _ _ _ (pts w2 (w.heap.size + 1 + 1) (zJ 0 0 false none 0 0));have hby := rT.out.all 0 0 false none 0 0;have ea := zh (zD (B := w.heap.size) (b := (w.heap.size + 1 + 1)) (by omega) (zJ 0 0 false none 0 0) HB.out);generalize pts w2 (w.heap.size + 1 + 1) (zJ 0 0 false none 0 0) = V at *;exact aw (v := .tuple #[zZ 0 0 false none 0 0, .int .i64 1]) (by simp [results, Tryz.results31, go_sem, hby.c0, hby.c1, hby.c2, hby.c3]) rfl (by rw [FI.out]; exact ig.no ea.out)
/-! ### mC Make answers there, in plain Lean -/
def lM : eE := ⟨0, 9000, false, [fresh 1]⟩
theorem lu : ec lM := (zR _).1 (Oe 0 9000 false (by decide))
def mc : Rq := ⟨0, 1, 1, 0, []⟩
def jA : Rq := ⟨0, 2, 1, 0, []⟩
theorem zKs : (zm lM []).2 = 0 ∧ (zm lM []).1.res = [] ∧ (zm lM []).1.needs.length = 0 := by
 unfold zm;rw [ag ((zR _).2 lu)];exact ⟨rfl, rfl, rfl⟩
theorem zIm : wW lM 0 = true := by
 unfold wW;rw [(zR _).2 lu]
 rfl
theorem zBQ : zy lM mc = 0 := by
 unfold zy;rw [ah (by decide), ag (show wW lM ((mc.data.length : Nat) : Int) = true from zIm)]
theorem zIc (key : Int) : ze (zS lM).m key = none := by
 rw [← k4];have h : zI (zS lM).m = [] := Xy 1;rw [h]; rfl
theorem zFI {t : eE} (h : ec t) (h1 : t.dP.length = 1) (key : Int) : zk t key = [] := by
 rw [X5 h, h1]; rfl
theorem zFn : xI lM jA = 6 := by
 have h : yM lM (jA.key : Int) = [] := by
  rw [R2 lu, R3 lu, zIc]; rfl
 unfold xI;rw [h, ah (by simp)]
theorem zKJ : (zm lM [jA]).2 = 0 ∧ (zm lM [jA]).1.res = [6] ∧ (zm lM [jA]).1.needs.length = 0 := by
 have h1 : zT (yR lM) jA = (true, more (yR lM) 6) := vX (by decide) rfl zFn;unfold zm;rw [ag ((zR _).2 lu), xo (by rw [h1]), h1];exact ⟨rfl, rfl, rfl⟩
theorem zKR : (zm lM [mc, jA]).2 = 0 ∧ (zm lM [mc, jA]).1.res = [0, 0] ∧ (zm lM [mc, jA]).1.needs.length = 2 := by
 have hc : qw (yR lM).t (uy mc) := kq lu zBQ;have h1 : zT (yR lM) mc = (true, more (vH (yR lM) (uy mc)) 0) := uT (by decide) rfl zBQ (by simp [yR]);have hk := O5 (P := yR lM) lu hc;have ht := Te (P := yR lM) lu hc;generalize hP : more (vH (yR lM) (uy mc)) 0 = P1 at *;have hPt : P1.t = (vH (yR lM) (uy mc)).t := by rw [← hP]; rfl
 have hPr : P1.res = [0] := by rw [← hP]; rfl
 have hPn : P1.needs = [uy mc] := by rw [← hP]; rfl
 have hPb : P1.bytes = 24 := by rw [← hP]; rfl
 rw [← hPt] at hk ht;have hv := hk.v;have hlen : P1.t.dP.length = 1 := hk.len;have MG : zS P1.t = yT (zS lM) (uy mc) := by rw [ht]; exact ZX lu _
 have hg : ze (zS P1.t).m ((jA.key : Nat) : Int) = some (Bj (zS lM) (uy mc)) := by
  rw [MG, zEu lu.sS.1 ⟨au _, fun e => (by cases e)⟩ (by decide)]
  rfl
 have hall : yM P1.t ((jA.key : Nat) : Int) = [⟨(zS P1.t).num, (zS P1.t).mode, (zS P1.t).rev, Bj (zS lM) (uy mc), 0⟩] := by
  rw [R2 hv, R3 hv, hg, hlen]; rfl
 have hcd : xI P1.t jA = 0 := by
  unfold xI;rw [hall, ag ⟨rfl, rfl⟩]
 have hks : yW P1 ((jA.key : Nat) : Int) = P1 := by
  unfold yW;rw [zFI hv hlen]; rfl
 have hd : yZ P1 jA = vH P1 (Ds jA) := by
  unfold yZ;rw [hks, ag ((tX hv _).2 (by rw [hg]; exact fun e => (by cases e)))]
 have h2 : zT P1 jA = (true, more (vH P1 (Ds jA)) 0) := by
  rw [← hd];exact vM (by rw [hPr]; decide) rfl hcd (by rw [hPb]; omega)
 unfold zm;rw [ag ((zR _).2 lu), xo (by rw [h1]), h1, xo (by rw [h2]), h2];refine ⟨rfl, ?_, ?_⟩
 ·
  show P1.res ++ [0] = _
  rw [hPr]; rfl
 show (P1.needs ++ [_]).length = 2
 rw [hPn]; rfl
theorem TQ {l : List Rq} {R : List Int} {N : Nat} (hM : (zm lM l).2 = 0 ∧ (zm lM l).1.res = R ∧ (zm lM l).1.needs.length = N) (b : Nat) (W : World) (hr : fl W (.slice (some ⟨b, 0, none⟩) 1 1) B7) (qa : Option Addr) (qn qc : Nat) (qs : List (Rq × Value)) (hq : oz W (.slice qa qn qc) qs) (hl : qs.map (·.1) = l) (hs : qs.length ≤ 2) (hd : ∀ p ∈ qs, p.1.data = []) :
  Calls Tryz.prog 22 #[zZ 0 9000 false (some ⟨b, 0, none⟩) 1 1, .slice qa qn qc] W fun e w' => ∃ ep ka kn kc na nc ra rc, e = .returned (.tuple #[Ob ep (R.length : Int) (.slice ka kn kc) (.slice na N nc) (.slice ra R.length rc), .int .i64 0]) ∧ Rd w' 1 (.slice ra R.length rc) R.length (R.map Dw) ∧ Below W.heap.size W w' := by
 obtain ⟨_, _, e, _⟩ := hq.shape;injection e with _ e _;subst e;have h := zCU lM (some ⟨b, 0, none⟩) 1 1 B7 qa qc qs W hr rfl (fun g hg i _ => by obtain rfl := List.mem_singleton.1 hg; exact au _) (by decide) hq (by omega) (fun p hp => by rw [hd p hp]; exact au _);rw [hl] at h;refine Calls.mono h ?_;rintro e w' ⟨kv, ks, nv, es, rv, rfl, hp, hb⟩;obtain ⟨h1, h2, h3⟩ := hM;obtain ⟨ka, kc, rfl, _⟩ := zO hp.k.row;obtain ⟨na, nc, rfl, _⟩ := zO hp.n.row;have I8 := zr hp.r;obtain ⟨ra, rc, rfl, _⟩ := zO hp.r;have hN : es.length = N := by rw [← h3, ← hp.nn, aI]
 rw [h1, h2, hN];rw [h2] at I8;exact ⟨_, _, _, _, _, _, _, _, rfl, I8, hb⟩
theorem zKT (W : World) : oz W (.slice none 0 0) [] := ⟨⟨fun x _ => vC x, Rd.nil W 5⟩, fun p hp => (by cases hp)⟩
theorem zF4 (W : World) (qs : List (Rq × Value)) (e : TypeId) (h : ∀ p ∈ qs, p.1.data = [] ∧ p.2 = .slice none 0 0) (hm : qs.length ≤ 10) : oz (W.alloc (.cells (qs.flatMap nu).toArray e)) (.slice (some ⟨W.heap.size, 0, none⟩) qs.length qs.length) qs :=
 ⟨⟨fun x _ => vC x, Rd.new W 5 _ e qs.length (yS 5 nu qs fun x _ => vC x) (ak hm (by decide))⟩, fun p hp => by
  obtain ⟨h1, h2⟩ := h p hp
  rw [h1, h2]; exact WS _⟩
def Kg : List (Rq × Value) := [(mc, .slice none 0 0), (jA, .slice none 0 0)]
def Kh : List (Rq × Value) := [(jA, .slice none 0 0)]
theorem zDj (w : World) : Calls Tryz.prog 19 #[] w fun e w' => e = .returned (.bool true) ∧ Below w.heap.size w w' := by
 have DC := zh (zIo 0 9000 (by decide) w)
 go_enter Tryz.func19, Tryz.ntmps19
 go_wp2_with fail;refine DC.out.mono ?_;rintro e w1 ⟨b, rfl, jN, hg, hb⟩;have HR := zh (Og hg);have HB := zh hb;clear hg hb jN DC;go_upto_region 2 with fail;change Code.wp _ _ _ _ (w1.alloc (.cells (zK 0 9000 false (some ⟨b, 0, none⟩) 1 1) 27));have eD := zN w1 0 9000 false (some ⟨b, 0, none⟩) 1 1 27;have HS := zh (dQ.new w1 (zK 0 9000 false (some ⟨b, 0, none⟩) 1 1) 27);replace HR := zh (HR.out.below eD);replace HB := zh (zA HB.out eD);clear eD;generalize w1.alloc (.cells (zK 0 9000 false (some ⟨b, 0, none⟩) 1 1) 27) = w2 at *;generalize w1.heap.size = bS at *;have HM := zh (TQ zKs b w2 HR.out none 0 0 [] (zKT w2) rfl (by decide) (fun p hp => by cases hp));obtain ⟨k0, k1, k2, k3⟩ := (dQ.gX HS.out).q;go_wp2_with fail;refine HM.out.mono ?_;rintro e w3 ⟨ep, ka, kn, kc, na, nc, ra, rc, rfl, I8, hb⟩;replace HS := zh (HS.out.below hb);replace HR := zh (HR.out.below hb)
 replace HB := zh (zA HB.out hb);clear hb I8 HM k0 k1 k2 k3;go_upto_region 3 with fail;change Code.wp _ _ _ _ (w3.alloc (.cells (xD ep 0 (.slice ka kn kc) (.slice na 0 nc) (.slice ra 0 rc)) 71));have eD := (aj w3.heap.size w3).alloc (ai _) (.cells (xD ep 0 (.slice ka kn kc) (.slice na 0 nc) (.slice ra 0 rc)) 71);have HP := zh (dQ.new w3 (xD ep 0 (.slice ka kn kc) (.slice na 0 nc) (.slice ra 0 rc)) 71);replace HS := zh (HS.out.below eD);replace HR := zh (HR.out.below eD);replace HB := zh (zA HB.out eD);clear eD;generalize w3.alloc (.cells (xD ep 0 (.slice ka kn kc) (.slice na 0 nc) (.slice ra 0 rc)) 71) = w4 at *;generalize w3.heap.size = bP at *
 -- the second
 have eD := (aj w4.heap.size w4).alloc (ai _) (.cells (Kg.flatMap nu).toArray 85);have gN := zh (zF4 w4 Kg 85 (fun p hp => by simp [Kg] at hp; rcases hp with rfl | rfl <;> exact ⟨rfl, rfl⟩) (by decide));have sI := zh (TQ zKR b _ (HR.out.below eD) _ _ _ Kg gN.out rfl (by decide) (fun p hp => by simp [Kg] at hp; rcases hp with rfl | rfl <;> rfl));obtain ⟨k0, k1, k2, k3⟩ := (dQ.gX HS.out).q;go_wp2_with fail;change Calls _ _ _ (w4.alloc (.cells (Kg.flatMap nu).toArray 85)) _;refine sI.out.mono ?_;rintro e w5 ⟨Fo, Mw, Pd, Mx, MX, MY, MZ, M2, rfl, I9, hb⟩;have fa := zA eD hb;replace HS := zh (HS.out.below fa);replace HR := zh (HR.out.below fa);replace HP := zh (HP.out.below fa);replace HB := zh (zA HB.out fa);clear hb fa eD sI gN k0 k1 k2 k3;dsimp only [List.length_cons, List.length_nil, List.map_cons, List.map_nil] at I9 ⊢;go_upto_region 4 with fail
 change Code.wp _ _ _ _ (w5.alloc (.cells (xD Fo 2 (.slice Mw Pd Mx) (.slice MX 2 MY) (.slice MZ 2 M2)) 71));have eD := (aj w5.heap.size w5).alloc (ai _) (.cells (xD Fo 2 (.slice Mw Pd Mx) (.slice MX 2 MY) (.slice MZ 2 M2)) 71);have mj := zh (dQ.new w5 (xD Fo 2 (.slice Mw Pd Mx) (.slice MX 2 MY) (.slice MZ 2 M2)) 71);replace HS := zh (HS.out.below eD);replace HR := zh (HR.out.below eD);replace HP := zh (HP.out.below eD);replace HB := zh (zA HB.out eD);have DN := zh (I9.below eD);clear eD I9;generalize w5.alloc (.cells (xD Fo 2 (.slice Mw Pd Mx) (.slice MX 2 MY) (.slice MZ 2 M2)) 71) = w6 at *;generalize w5.heap.size = TR at *;have eD := (aj w6.heap.size w6).alloc (ai _) (.cells (Kh.flatMap nu).toArray 85);have IV := zh (zF4 w6 Kh 85 (fun p hp => by simp [Kh] at hp; subst hp; exact ⟨rfl, rfl⟩) (by decide))
 have NL := zh (TQ zKJ b _ (HR.out.below eD) _ _ _ Kh IV.out rfl (by decide) (fun p hp => by simp [Kh] at hp; subst hp; rfl));obtain ⟨k0, k1, k2, k3⟩ := (dQ.gX HS.out).q;go_wp2_with fail;change Calls _ _ _ (w6.alloc (.cells (Kh.flatMap nu).toArray 85)) _;refine NL.out.mono ?_;rintro e w7 ⟨Fp, BA, Pe, BD, M5, M6, M7, M8, rfl, I_, hb⟩;have fa := zA eD hb;replace HS := zh (HS.out.below fa);replace HR := zh (HR.out.below fa);replace HP := zh (HP.out.below fa);replace mj := zh (mj.out.below fa);replace DN := zh (DN.out.below fa);replace HB := zh (zA HB.out fa);clear hb fa eD NL IV k0 k1 k2 k3;dsimp only [List.length_cons, List.length_nil, List.map_cons, List.map_nil] at I_ ⊢;go_upto_region 5 with fail;change Code.wp _ _ _ _ (w7.alloc (.cells (xD Fp 1 (.slice BA Pe BD) (.slice M5 0 M6) (.slice M7 1 M8)) 71))
 have eD := (aj w7.heap.size w7).alloc (ai _) (.cells (xD Fp 1 (.slice BA Pe BD) (.slice M5 0 M6) (.slice M7 1 M8)) 71);have TS := zh (dQ.new w7 (xD Fp 1 (.slice BA Pe BD) (.slice M5 0 M6) (.slice M7 1 M8)) 71);replace HS := zh (HS.out.below eD);replace HR := zh (HR.out.below eD);replace HP := zh (HP.out.below eD);replace mj := zh (mj.out.below eD);replace DN := zh (DN.out.below eD);replace HB := zh (zA HB.out eD);have TU := zh (I_.below eD);clear eD I_;generalize w7.alloc (.cells (xD Fp 1 (.slice BA Pe BD) (.slice M5 0 M6) (.slice M7 1 M8)) 71) = w8 at *;generalize w7.heap.size = TV at *;have p0 : w8.cell? ⟨bP, 1, none⟩ = some (.int .i64 0) := dQ.cell HP.out rfl;have p1 : w8.cell? ⟨TR, 1, none⟩ = some (.int .i64 2) := dQ.cell mj.out rfl;have p3 : w8.cell? ⟨TR, 3, none⟩ = some (.slice MX 2 MY) := dQ.cell mj.out rfl
 have p4 : w8.cell? ⟨TR, 4, none⟩ = some (.slice MZ 2 M2) := dQ.cell mj.out rfl;have s1 : w8.cell? ⟨TV, 1, none⟩ = some (.int .i64 1) := dQ.cell TS.out rfl;have s3 : w8.cell? ⟨TV, 3, none⟩ = some (.slice M5 0 M6) := dQ.cell TS.out rfl;have s4 : w8.cell? ⟨TV, 4, none⟩ = some (.slice M7 1 M8) := dQ.cell TS.out rfl;obtain ⟨_, _, _, e2, _, _, _, GZ⟩ := DN.out;injection e2 with e2 _ _;obtain ⟨bx, ox, e3, GZ⟩ := GZ (by decide);obtain rfl := e2.trans e3;have r0 : w8.cell? ⟨bx, ox, none⟩ = some (.int .i64 0) := GZ 0 _ rfl;have r1 : w8.cell? ⟨bx, ox + 1, none⟩ = some (.int .i64 0) := GZ 1 _ rfl;obtain ⟨_, _, _, e4, _, _, _, Pf⟩ := TU.out;injection e4 with e4 _ _;obtain ⟨l9, oy, e5, Pf⟩ := Pf (by decide);obtain rfl := e4.trans e5;have t0 : w8.cell? ⟨l9, oy, none⟩ = some (.int .i64 6) := Pf 0 _ rfl;clear e2 e3 GZ e4 e5 Pf;go_wp2_with fail;go_ret;exact ⟨rfl, HB.out⟩
def Es (x : Nd) : Nd := ⟨x.key % 8, x.ck % 4, x.del, if x.del then [] else x.data.take 30⟩
def CV (n : Nat) (l : List Nd) : List Nd := (l.take n).map Es
theorem zKS (x : Nd) : (Es x).data.length ≤ 30 := by
 unfold Es;dsimp only
 split
 ·
  simp
 rw [ay]; omega
theorem TW (n : Nat) (l : List Nd) : (CV n l).length ≤ n := by unfold CV; rw [aI, ay]; omega
theorem zEh (n : Nat) (l : List Nd) : ∀ x ∈ CV n l, x.data.length ≤ 30 := fun x hx => by
 obtain ⟨y, _, rfl⟩ := List.mem_map.1 hx;exact zKS y
theorem zLe (l : List Nd) : g_ (CV 6 l) ≤ 400 := by
 have key : ∀ k : List Nd, (∀ x ∈ k, x.data.length ≤ 30) → g_ k ≤ k.length * 56 := by
  intro k
  induction k with
  | nil => intro _; exact au _
  | cons x r ih =>
   intro h;have h1 := ih fun y hy => h y (by simp [hy])
   have h2 := h x (by simp);have h3 : eG x.data.length ≤ 56 := by rw [Kq (by omega)]; unfold oO; omega
   rw [wu, aY]; omega
 have h1 := key _ (zEh 6 l);have h2 := TW 6 l;omega
noncomputable def uo (s : eE) (kd : Int) (ns : List Nd) (gen : Int) (keys : List Int) : eE :=
 if kd = 4 ∨ kd = 5 then (if (xO s).2 = 0 then (xO s).1 else s)
 else if kd = 6 then vV s (ye (eH s.dP (gen % (s.dP.length : Int)).toNat) (keys.take 8))
 else if kd = 7 then vV s (xK (eH s.dP (gen % (s.dP.length : Int)).toNat) 2)
 else vV s (yt (zS s) (CV 6 ns))
noncomputable def TX (s : eE) (x : nE) : eE := uo s (x.kind % 8) (x.l.map (·.1)) x.gen x.keys
noncomputable def wE (s : eE) (l : List nE) : eE := l.foldl TX s
noncomputable def Ja (l : List nE) : eE := wE B9 (l.take 8)
theorem ke (l : List nE) (i : Nat) (h : i < l.length) : wE B9 (l.take (i + 1)) = TX (wE B9 (l.take i)) (kB l i) := by
 unfold wE kB;rw [cU, ax, aB h, dg]
 rfl
theorem zCD {g : Gn} {m : Int} (h : (xK g m).1 = 0) : (xK g m).2 = { g with mode := m + 1 } := by
 unfold xK at h ⊢
 split
 ·
  rename_i h1;rw [ag h1] at h
  split
  ·
   rfl
  rename_i h2; rw [ah h2] at h; cases h
 rename_i h1; rw [ah h1] at h; cases h
theorem zFA {n : Nat} {s : eE} (h : iH n s) (kd : Int) (ns : List Nd) (gen : Int) (keys : List Int) : iH (n + 1) (uo s kd ns gen keys) := by
 have hg : eH s.dP (gen % (s.dP.length : Int)).toNat ∈ s.dP := th (by
  have h1 := h.v.len
  have h2 := Int.emod_lt_of_pos gen (show (0 : Int) < (s.dP.length : Int) by omega)
  have h3 := Int.emod_nonneg gen (show (s.dP.length : Int) ≠ 0 by omega)
  omega)
 unfold uo
 split
 ·
  have := XT h 2 ns gen keys;unfold LL at this;exact this
 split
 ·
  have := XT h 3 ns gen keys;unfold LL at this;exact this
 split
 ·
  unfold vV
  split
  ·
   rename_i hr;obtain ⟨h1, h2⟩ := hr;refine h.Oj h2 ?_ ?_
   ·
    rw [zCD h1];intro i hi;exact ak (h.len _ hg i hi) (by omega)
   rw [zCD h1];have := h.F4 _ hg;dsimp only; omega
  exact h.up
 unfold vV
 split
 ·
  rename_i hr;obtain ⟨h1, h2⟩ := hr;have ht := uX h.v;refine h.Oj h2 ?_ ?_
  ·
   rw [kI h1];intro i hi;have := wL (CV 6 ns) _ (h.len _ ht) i hi;have := TW 6 ns;omega
  rw [kI h1, wP];have := h.F4 _ ht;have := zLe ns;omega
 exact h.up
theorem tF (l : List nE) : ∀ i, i ≤ l.length → iH i (wE B9 (l.take i))
 | 0, _ => zF1
 | i + 1, h => by
  rw [ke l i (by omega)];exact zFA (tF l i (by omega)) _ _ _ _
theorem zGo (l : List nE) : iH 8 (Ja l) := by
 have h1 : ∀ i j, i ≤ j → ∀ s, iH i s → iH j s := by
  intro i j hij;obtain ⟨d, rfl⟩ : ∃ d, j = i + d := ⟨j - i, by omega⟩
  clear hij
  induction d with
  | zero => exact fun s h => h
  | succ d ih => exact fun s h => (ih s h).up
 have h2 := tF (l.take 8) (l.take 8).length (ai _);rw [aS (ai _)] at h2;exact h1 _ 8 (by rw [ay]; omega) _ h2
theorem zIv : xj Tryz.prog 74 85 5 56 := by
 obtain ⟨i, hi, hz, hs, hb⟩ := cn (P := Tryz.prog) (e := 85) (z := .agg #[.int .i64 0, .int .i64 0, .int .u64 0, .int .u32 0, .slice none 0 0]) (size := 5) (bytes := 56) (by kernel_rfl);exact ⟨Tryz.underlying74, by decide, i, _, hi, hz, hs, hb, rfl⟩
theorem zKi (qs : List (Rq × Value)) (i : Nat) (h : i < qs.length) : (qs.take (i + 1)).flatMap nu = (qs.take i).flatMap nu ++ nu (jX qs i) := by
 rw [cU, aB h, cm]
 congr 1
 unfold jX;rw [ax, aB h];simp
theorem zDf (v : Value) (qs : List (Rq × Value)) (w : World) (h : oz w v qs) (JD : qs.length ≤ 1000000) :
  Calls Tryz.prog 24 #[v] w fun e w' => ∃ v', e = .returned v' ∧ w'.ownsRow w.heap.size 85 5 v' qs.length (qs.flatMap nu) ∧ Below w.heap.size w w' := by
 obtain ⟨a, cap, rfl, h1, h2⟩ := h.shape;have HQ := zh h;have HT := zh (zKi qs);have HE := zh (show (qs.take qs.length).flatMap nu = qs.flatMap nu by rw [ct]);clear h;generalize hn : qs.length = n at *;clear hn
 go_enter Tryz.func24, Tryz.ntmps24
 go_wp2_with fail
 go_loopw [3, 8] (fun ov iv W => ∃ i : Nat, iv = .int .i64 (i : Int) ∧ i ≤ n ∧ Hid (W.ownsRow w.heap.size 85 5 ov i ((qs.take i).flatMap nu)) ∧ Hid (Below w.heap.size w W)) (fun _ iv _ => n - (intOf iv).toNat)
 case atStart => exact ⟨0, rfl, au _, zh (aV _ _ _ _), zh (aj _ _)⟩
 obtain ⟨i, rfl, hi, HO, HB⟩ := eT;obtain ⟨oa, oc, sH, Ap, Cp, _⟩ := zO HO.out;subst sH
 by_cases hin : i < n
 ·
  have i1 : (i : Int) < (n : Int) := by omega
  obtain ⟨qb, qo, e0, hd, c0, c1, c2, c3, c4⟩ := (HQ.out.below HB.out).at (j := i) hin;subst e0;have hT := HT.out i hin;obtain ⟨da, dc, TY, _⟩ := hd.gq;rw [TY] at c4;have hX : nu (jX qs i) = [.int .i64 (jX qs i).1.tk, .int .i64 (jX qs i).1.kind, .int .u64 ((jX qs i).1.key : Int), .int .u32 ((jX qs i).1.ck : Int), .slice da (jX qs i).1.data.length dc] := by show [_, _, _, _, _] = _; rw [TY]
  rw [hX] at hT;have JN := zh hT;clear hX hT hd TY;generalize (jX qs i).1.data.length = dn at *;generalize (jX qs i).1.tk = tk at *;generalize (jX qs i).1.kind = kd at *;generalize ((jX qs i).1.key : Int) = ky at *;generalize ((jX qs i).1.ck : Int) = ck at *;have hsz : w.heap.size ≤ wr.heap.size := HB.out.size;have iU := (aj wr.heap.size wr).alloc (ai _) (.cells #[.int .i64 tk, .int .i64 kd, .int .u64 ky, .int .u32 ck, .slice da dn dc] 63);have HX := zh (dQ.new wr #[.int .i64 tk, .int .i64 kd, .int .u64 ky, .int .u32 ck, .slice da dn dc] 63);have jE := zh (zH HO.out iU);have gj := zh (HB.out.trans (iU.mono hsz));have pg := ak hsz iU.size;clear iU;go_upto_region 5 with fail;change Code.wp _ _ _ _ (wr.alloc (.cells #[.int .i64 tk, .int .i64 kd, .int .u64 ky, .int .u32 ck, .slice da dn dc] 63))
  generalize wr.alloc (.cells #[.int .i64 tk, .int .i64 kd, .int .u64 ky, .int .u32 ck, .slice da dn dc] 63) = w5 at *;have x0 := HX.out.cell (i := 0) rfl;have x1 := HX.out.cell (i := 1) rfl;have x2 := HX.out.cell (i := 2) rfl;have x3 := HX.out.cell (i := 3) rfl;have x4 := HX.out.cell (i := 4) rfl;clear c0 c1 c2 c3 c4 HB HO;have l5 := (aj w5.heap.size w5).alloc (ai _) (.cells #[.int .i64 tk, .int .i64 kd, .int .u64 ky, .int .u32 ck, .slice da dn dc] 85);have mh := zh (zH jE.out l5);have jG := zh (gj.out.trans (l5.mono pg));have M9 := ak pg l5.size;clear l5
  go_wp2_with (at_builtin; go_must (refine zd (n := i) (m := 1) rfl (.tmp 12) (.tmp 24) 74 rfl zIv w.heap.size rfl mh.out rfl (Rd.np w5.heap.size w5 rfl 5 [.int .i64 tk, .int .i64 kd, .int .u64 ky, .int .u32 ck, .slice da dn dc] 85 1 rfl (by decide)) (fun u hu => by simp only [cA, cB, or_false] at hu; rcases hu with h | h | h | h | h <;> rw [h] <;> rfl) (by unfold maxLen; omega) (by omega) M9 ?_); intro v3 w7 d_ eW mH; clear mH);have Bf := zh (show w7.ownsRow w.heap.size 85 5 v3 (i + 1) ((qs.take (i + 1)).flatMap nu) by rw [JN.out]; exact d_);have BV := zh (zM jG.out mh.out M9 eW);clear d_ eW;go_wp2_with fail;exact ⟨⟨i + 1, by go_num, by omega, Bf, BV⟩, by simp [intOf]; omega⟩
 have i1 : ¬ (i : Int) < (n : Int) := by omega
 obtain rfl : i = n := by omega
 go_wp2_with fail;go_ret;exact ⟨_, rfl, by rw [← HE.out]; exact HO.out, HB.out⟩
end Go.Proofs.YtcgfilmmokmdjaaGreat
