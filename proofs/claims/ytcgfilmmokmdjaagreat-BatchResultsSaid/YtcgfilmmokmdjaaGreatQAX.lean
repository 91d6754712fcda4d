/- A part of the walk. -/
import Derived.Test.YtcgfilmmokmdjaaGreatQAV
import Derived.Test.YtcgfilmmokmdjaaGreatQAP
import Derived.Test.YtcgfilmmokmdjaaGreatQAL
import Derived.Test.YtcgfilmmokmdjaaGreatQAU
import Derived.Test.YtcgfilmmokmdjaaGreatQAW
import Derived.Test.YtcgfilmmokmdjaaGreatQAM
import Derived.Test.YtcgfilmmokmdjaaGreatHj
set_option linter.all false
set_option maxRecDepth 100000
set_option maxHeartbeats 32000000
namespace Go.Proofs.YtcgfilmmokmdjaaGreat
open Go.RowKit
theorem zJm (w : World) (i l : Int) (r : Bool) (a : Option Addr) (n c : Nat) (P5 : Array Value) (t u v : TypeId) : ∃ W, ((w.alloc (.cells (zK i l r a n c) t)).alloc (.cells P5 u)).alloc (.cells (zK 0 0 false none 0 0) v) = W ∧ dV W w.heap.size (zK i l r a n c) t ∧ dV W (w.heap.size + 1) P5 u ∧ dV W (w.heap.size + 1 + 1) (zK 0 0 false none 0 0) v ∧ Below w.heap.size w W := by
 have h1 := zN w i l r a n c t;have h2 := (aj (w.alloc (.cells (zK i l r a n c) t)).heap.size (w.alloc (.cells (zK i l r a n c) t))).alloc (ai _) (.cells P5 u);have h3 := zN ((w.alloc (.cells (zK i l r a n c) t)).alloc (.cells P5 u)) 0 0 false none 0 0 v;refine ⟨_, rfl, ((dV.new w _ t).below h2).below h3, ?_, ?_, zA (zA h1 h2) h3⟩
 ·
  have := (dV.new (w.alloc (.cells (zK i l r a n c) t)) P5 u).below h3
  rwa [cH] at this
 have := dV.new ((w.alloc (.cells (zK i l r a n c) t)).alloc (.cells P5 u)) (zK 0 0 false none 0 0) v
 rwa [cH, cH] at this
theorem fq.Tx {W : World} {b : Nat} {t : TypeId} {n' r md z : Int} {s : Sl} {l g : Int} {a : Option Addr} {n c : Nat} {L : List GP} (h : fq W (.slice a n c) L) (hne : ∀ x, a = some x → x.block ≠ b) (hb : dV W b (zW n' r md z s l g) t) (vs : List (Nat × Value)) : fq (pts W b vs) (.slice a n c) L := by
 refine ⟨⟨h.r.1, ?_⟩, fun p hp => (h.m p hp).gen hb vs⟩;obtain ⟨h1, a', cap, e, h3, h4, h5, h6⟩ := h.r.2;injection e with e1 e2 e3;subst e1 e2 e3;refine ⟨h1, _, _, rfl, h3, h4, h5, fun hp => ?_⟩;obtain ⟨b', off, e2, hc⟩ := h6 hp;exact ⟨b', off, e2, fun j u hu => (zt (p := ⟨b', off + j, none⟩) (show b' ≠ b from hne _ e2) vs W).trans (hc j u hu)⟩
theorem fq.lo {W : World} {a : Option Addr} {n c : Nat} {L : List GP} (h : fq W (.slice a n c) L) (hn : 0 < n) : ∀ x, a = some x → x.block < W.heap.size := by
 obtain ⟨h1, a', cap, e, h3, h4, h5, h6⟩ := h.r.2;injection e with e1 e2 e3;subst e1;intro x hx;obtain ⟨b', off, e4, hc⟩ := h6 (by rw [h1]; omega);rw [hx] at e4;injection e4 with e4;subst e4;have hl : 0 < (L.flatMap gU).length := by rw [h1]; omega
 exact cI W _ (hc 0 _ (aB hl))
theorem zFK (s : eL) (a : Option Addr) (n c : Nat) (L : List GP) (ey : Bool) (tk : Int) (kv nv rv : Value) (ks : List KP) (es : List (Nd × Value)) (w : World) (h : fq w (.slice a n c) L) (hg : dZ L = s.dU) (hl : eV 700 s.dU) (hn : n ≤ 1000000)
  (hk : rQ w kv ks) (hkl : ∀ p ∈ ks, p.2.2.length ≤ 1000) (hnd : mL w nv es) (hel : es.length ≤ 300) (Mu : ∃ a n c, rv = .slice a n c) :
  Calls Tryz.prog 31 #[zZ s.id s.lim s.ro a n c, NR ey tk kv nv rv] w (iu w (wg s ey (gX ks) (es.map (·.1)))) := by
 obtain ⟨ra, rn, rc, rfl⟩ := Mu;obtain ⟨ka, kc, rfl, pO, hk2⟩ := hk.shape;obtain ⟨na, nc, rfl, _, _⟩ := hnd.shape;obtain ⟨i, l, r, g⟩ := s;dsimp only at hg hl ⊢;subst hg;have fR : L.length = n := by
  obtain ⟨_, _, e, _⟩ := h.shape;injection e with _ e _; exact e.symm
 have hm : (gX ks).length = ks.length := vm ks;have hmx : ks.length ≤ 9223372036854775807 := ak pO hk2;have Ie := zh hk;have Nq := zh hnd;have HL := zh hl;have Dk := zh hkl;have jW := zh (show (dZ L).length = n by rw [zj, fR]);generalize Z9 : wg ⟨i, l, r, dZ L⟩ ey (gX ks) (es.map (·.1)) = AP at *;have Gc := zh Z9;obtain ⟨W0, hW0, fc, OO, Z_, fB⟩ := zJm w i l r a n c (xD ey tk (.slice ka ks.length kc) (.slice na es.length nc) (.slice ra rn rc)) 27 71 27;have HX := zh fc;have jL := zh OO;have HZ := zh Z_;have HB := zh fB;have HR := zh (h.below fB);have ni := zh h;clear h hk hnd hl hkl Z9 fc OO Z_ fB pO hk2 fR
 go_enter Tryz.func31, Tryz.ntmps31
 go_upto_region 1 with fail;clear hW0;have HT := zh (XS i l r a n c L W0 HR.out (wm (HL.out.mono (by decide)) (ai _)));obtain ⟨k0, k1, k2, k3⟩ := (dV.g_ HX.out).q
 by_cases hv : zg ⟨i, l, r, dZ L⟩ = true
 ·
  have hV := (zR _).1 hv;have hn0 : 0 < n := by have := hV.len; dsimp only at this; rw [jW.out] at this; omega
  rw [show uG ⟨i, l, r, dZ L⟩ = (0, zS ⟨i, l, r, dZ L⟩) from XP hV] at HT;have Mn := zh (show ∀ j, j < 8 → ((zS ⟨i, l, r, dZ L⟩).m.st j).length ≤ 700 from HL.out _ (uX hV))
  have FB := zh (show AP = if ey = true then xO ⟨i, l, r, dZ L⟩ else if (zi (gX ks) ⟨i, l, r, dZ L⟩).2 = 0 then (if (yt (zS ⟨i, l, r, dZ L⟩) (es.map (·.1))).1 = 0 then yb (zi (gX ks) ⟨i, l, r, dZ L⟩).1 (yt (zS ⟨i, l, r, dZ L⟩) (es.map (·.1))).2 else (xP, (yt (zS ⟨i, l, r, dZ L⟩) (es.map (·.1))).1)) else (xP, (zi (gX ks) ⟨i, l, r, dZ L⟩).2) from by
   rw [← Gc.out]; unfold wg; rw [ag hv])
  clear hV hv Gc;generalize zS ⟨i, l, r, dZ L⟩ = tg at *;obtain ⟨tn, tr, tm, tz, ⟨tf, tL, tG⟩⟩ := tg;dsimp only at HT Mn;go_wp2_with fail;refine HT.out.mono ?_;rintro e w1 ⟨⟨sT, rfl, ho⟩, hb⟩;dsimp only at ho ⊢;clear k0 k1 k2 k3;replace HX := zh (HX.out.below hb);replace jL := zh (jL.out.below hb);replace HZ := zh (HZ.out.below hb);replace HR := zh (HR.out.below hb);replace HB := zh (zA HB.out hb);have BG := zh (show fw w1 sT tf from ho.rd);have MA := HZ.out.lt;have HNa := zh (fun x hx => Nat.lt_trans (ni.out.lo hn0 x hx) (show w.heap.size < w1.heap.size by omega));clear ho hb HT;go_upto_region 2 with fail;change Code.wp _ _ _ _ (w1.alloc (.cells (zW tn tr tm tz sT tL tG) 38));have eH := zQ w1 tn tr tm tz sT tL tG 38;have HG := zh (dV.new w1 (zW tn tr tm tz sT tL tG) 38);replace BG := zh (BG.out.below eH);replace HX := zh (HX.out.below eH);replace jL := zh (jL.out.below eH)
  replace HZ := zh (HZ.out.below eH);replace HR := zh (HR.out.below eH);replace HB := zh (zA HB.out eH);clear eH;generalize w1.alloc (.cells (zW tn tr tm tz sT tL tG) 38) = w2 at *;generalize w1.heap.size = bG at *;have p0 : w2.cell? ⟨w.heap.size + 1, 0, none⟩ = some (.bool ey) := dV.cell jL.out rfl
  cases ey
  ·
   have r_ := zh (FB.out.trans (ah (by decide)));clear FB;have p2 : w2.cell? ⟨w.heap.size + 1, 2, none⟩ = some (.slice ka ks.length kc) := dV.cell jL.out rfl;go_wp2_with fail;clear p0 p2
   go_loopw [30] (fun iv V => ∃ (k : Nat) (t : eL) (a' : Option Addr) (n' c' : Nat) (L' : List GP), iv = .int .i64 (k : Int) ∧ k ≤ ks.length ∧ Hid (zi ((gX ks).take k) ⟨i, l, r, dZ L⟩ = (t, 0)) ∧ Hid (dV V w.heap.size (zK t.id t.lim t.ro a' n' c') 27) ∧ Hid (fq V (.slice a' n' c') L') ∧ Hid (dZ L' = t.dU) ∧ Hid (∀ x, a' = some x → x.block ≠ bG) ∧ Hid (dV V bG (zW tn tr tm tz sT tL tG) 38) ∧ Hid (fw V sT tf) ∧ Hid (dV V (w.heap.size + 1) (xD false tk (.slice ka ks.length kc) (.slice na es.length nc) (.slice ra rn rc)) 71) ∧ Hid (dV V (w.heap.size + 1 + 1) (zK 0 0 false none 0 0) 27) ∧ Hid (Below w.heap.size w V)) (fun iv _ => ks.length - (intOf iv).toNat)
   case atStart => exact ⟨0, ⟨i, l, r, dZ L⟩, a, n, c, L, rfl, au _, zh rfl, HX, HR, zh rfl, zh (fun x hx => Nat.ne_of_lt (HNa.out x hx)), HG, BG, jL, HZ, HB⟩
   clear HX HR HG BG jL HZ HB;obtain ⟨k, t, a', n', c', L', rfl, Gj, Eu, HX, HR, OQ, HNb, HG, BG, jL, HZ, HB⟩ := hrel
   have WX := zh (show eV 700 t.dU from by
    have := ZJ ((gX ks).take k) ⟨i, l, r, dZ L⟩ HL.out
    rw [Eu.out] at this; exact this)
   have hn' : n' ≤ 1000000 := by
    have h1 := ZK ((gX ks).take k) ⟨i, l, r, dZ L⟩;rw [Eu.out] at h1;dsimp only at h1;obtain ⟨_, _, e, _⟩ := HR.out.shape;injection e with _ e _;rw [← OQ.out, zj, jW.out] at h1;omega
   by_cases hlt : k < ks.length
   ·
    have i1 : (k : Int) < (ks.length : Int) := by omega
    obtain ⟨bk, ok, rfl, hU, c0, c1⟩ := (Ie.out.below HB.out).at hlt;have MB := Dk.out _ (ZL hlt);have BP := zh (fun h2 => zEO (l := gX ks) (k := k) (by rw [hm]; exact hlt) (s := ⟨i, l, r, dZ L⟩) (by rw [Eu.out]) h2);have BR := zh (fun h2 => zFr (l := gX ks) (k := k) (by rw [hm]; exact hlt) (s := ⟨i, l, r, dZ L⟩) (by rw [Eu.out]) h2);rw [Eu.out, zIO] at BP BR;dsimp only at BP BR;generalize jh ks k = kp at *;obtain ⟨num, kv9, keys⟩ := kp;dsimp only at hU c0 c1 MB BP BR;obtain ⟨JT, JU, rfl, _, _⟩ := hU.gw;have HU := zh hU;clear hU;go_upto_region 9 with fail;clear c0 c1;change Code.wp _ _ _ _ (wr.alloc (.cells #[.int .i64 num, .slice JT keys.length JU] 89));have eH := (aj wr.heap.size wr).alloc (ai _) (.cells #[.int .i64 num, .slice JT keys.length JU] 89);have BH := zh (dV.new wr #[.int .i64 num, .slice JT keys.length JU] 89);replace HU := zh (iw.below HU.out eH)
    replace HR := zh (HR.out.below eH);replace HX := zh (HX.out.below eH);replace jL := zh (jL.out.below eH);replace HZ := zh (HZ.out.below eH);replace HG := zh (HG.out.below eH);replace BG := zh (BG.out.below eH);replace HB := zh (zA HB.out eH);clear eH;generalize wr.alloc (.cells #[.int .i64 num, .slice JT keys.length JU] 89) = v0 at *;generalize wr.heap.size = b9 at *;have Ci := zh (YQ t a' n' c' L' v0 HR.out OQ.out (WX.out.mono (by decide)) hn' num (.slice JT keys.length JU) keys HU.out MB);have y0 : v0.cell? ⟨b9, 0, none⟩ = some (.int .i64 num) := dV.cell BH.out rfl;have y1 : v0.cell? ⟨b9, 1, none⟩ = some (.slice JT keys.length JU) := dV.cell BH.out rfl;obtain ⟨k0, k1, k2, k3⟩ := (dV.g_ HX.out).q;generalize yX t num keys = KS at *;obtain ⟨⟨ui, ul, ur, ug⟩, ue⟩ := KS;go_wp2_with fail;refine Ci.out.mono ?_;rintro e v1 ⟨⟨xa, xn, xc, xL, rfl, G7, oF⟩, hb⟩;dsimp only at oF BP BR ⊢
    clear y0 y1 k0 k1 k2 k3 BH HU Ci;have lj := zh G7.rd
    have HNx := zh (show ∀ x, xa = some x → x.block ≠ bG from fun x hx => by
     have h9 := (G7.row.lt x.block (by rw [hx]; rfl)).1
     have h8 := HG.out.lt
     omega)
    have iE := zh oF;replace HX := zh (HX.out.below hb);replace jL := zh (jL.out.below hb);replace HZ := zh (HZ.out.below hb);replace HG := zh (HG.out.below hb);replace BG := zh (BG.out.below hb);replace HB := zh (zA HB.out hb);clear hb G7 oF HR;obtain ⟨k0, k1, k2, k3⟩ := (dV.g_ HX.out).q;have kf := (dV.g_ HX.out).f;go_upto_region 10 with fail;clear k0 k1 k2 k3 kf;change Code.wp _ _ _ _ (pts v1 w.heap.size (zJ ui ul ur xa xn xc));have fp := zh (dV.rM HX.out ui ul ur xa xn xc);replace lj := zh (fq.g_ lj.out HX.out (zJ ui ul ur xa xn xc));replace BG := zh (fw.g_ BG.out HX.out (zJ ui ul ur xa xn xc));replace HG := zh (dV.eu (c := w.heap.size) (by omega) (zJ ui ul ur xa xn xc) HG.out);replace jL := zh (dV.eu (c := w.heap.size) (by omega) (zJ ui ul ur xa xn xc) jL.out);replace HZ := zh (dV.eu (c := w.heap.size) (by omega) (zJ ui ul ur xa xn xc) HZ.out)
    replace HB := zh (zD (B := w.heap.size) (b := w.heap.size) (ai _) (zJ ui ul ur xa xn xc) HB.out);clear HX;generalize pts v1 w.heap.size (zJ ui ul ur xa xn xc) = v2 at *
    by_cases OS : ue = 0
    ·
     subst OS;have HKn := zh (BP.out rfl);go_wp2_with fail;exact ⟨⟨k + 1, ⟨ui, ul, ur, ug⟩, xa, xn, xc, xL, by go_num, by omega, HKn, fp, lj, iE, HNx, HG, BG, jL, HZ, HB⟩, by simp [intOf]; omega⟩
    have hz : (ue == 0) = false := beq_eq_false_iff_ne.2 OS;have Cg := zh (show AP = (xP, ue) from by rw [r_.out, BR.out OS]; exact ah OS);have rS := zh (dV.g_ HZ.out);obtain ⟨z0, z1, z2, z3⟩ := rS.out.q;have zf := rS.out.f;go_wp2_with fail;change bodyPost _ _ _ _ _ (pts v2 (w.heap.size + 1 + 1) (zJ 0 0 false none 0 0));have hby := rS.out.all 0 0 false none 0 0;have ek := zh (zD (B := w.heap.size) (b := (w.heap.size + 1 + 1)) (by omega) (zJ 0 0 false none 0 0) HB.out);generalize pts v2 (w.heap.size + 1 + 1) (zJ 0 0 false none 0 0) = V at *;exact aw (v := .tuple #[zZ 0 0 false none 0 0, .int .i64 ue]) (by simp [results, Tryz.results31, go_sem, hby.c0, hby.c1, hby.c2, hby.c3]) rfl (by rw [Cg.out]; exact iu.no ek.out)
   have i1 : ¬ (k : Int) < (ks.length : Int) := by omega
   have hke : (gX ks).take k = gX ks := aR (by rw [hm]; omega)
   have Cg := zh (show AP = if (yt ⟨tn, tr, tm, tz, ⟨tf, tL, tG⟩⟩ (es.map (·.1))).1 = 0 then yb t (yt ⟨tn, tr, tm, tz, ⟨tf, tL, tG⟩⟩ (es.map (·.1))).2 else (xP, (yt ⟨tn, tr, tm, tz, ⟨tf, tL, tG⟩⟩ (es.map (·.1))).1) from by
    have h1 := Eu.out
    rw [hke] at h1
    rw [r_.out, h1]; exact ag rfl)
   clear r_ Eu hke;have oM := zh (fun W (hb : Below wr.heap.size wr W) => Xa ⟨tn, tr, tm, tz, ⟨tf, tL, tG⟩⟩ sT (.slice na es.length nc) es 700 W (BG.out.below hb) Mn.out ((Nq.out.below HB.out).below hb) (by omega));have NI := zh (show ∀ j, j < 8 → ((yt ⟨tn, tr, tm, tz, ⟨tf, tL, tG⟩⟩ (es.map (·.1))).2.m.st j).length ≤ 10000 from fun j hj => ak (qJ (K := 700) (g := ⟨tn, tr, tm, tz, ⟨tf, tL, tG⟩⟩) (l := es.map (·.1)) Mn.out j hj) (by rw [aI]; omega));generalize yt ⟨tn, tr, tm, tz, ⟨tf, tL, tG⟩⟩ (es.map (·.1)) = AG at *;obtain ⟨ae, ⟨gn, gr, gm, gz, ⟨gf, gL, gG⟩⟩⟩ := AG;dsimp only at oM NI Cg;replace oM := zh (oM.out wr (aj _ _));have p3 : wr.cell? ⟨w.heap.size + 1, 3, none⟩ = some (.slice na es.length nc) := dV.cell jL.out rfl;obtain ⟨g0, g1, g2, g3, g4, g5, g6, g7, g8, g9, g10, g11, g12, g13⟩ := (dV.gen HG.out).q;go_wp2_with fail;refine oM.out.mono ?_;rintro e v1 ⟨⟨s9, rfl, ho⟩, hb⟩
   dsimp only at ho ⊢;clear p3;clear g0 g1 g2 g3 g4 g5 g6 g7 g8 g9 g10 g11 g12 g13;replace HR := zh (HR.out.below hb);replace HX := zh (HX.out.below hb);replace HZ := zh (HZ.out.below hb);replace HG := zh (HG.out.below hb);replace HB := zh (zA HB.out hb);have Ff := zh (show fw v1 s9 gf from ho.rd);clear ho hb oM BG jL;have gff := (dV.gen HG.out).f;obtain ⟨g0, g1, g2, g3, g4, g5, g6, g7, g8, g9, g10, g11, g12, g13⟩ := (dV.gen HG.out).q;go_upto_region 14 with fail;clear gff;clear g0 g1 g2 g3 g4 g5 g6 g7 g8 g9 g10 g11 g12 g13;change Code.wp _ _ _ _ (pts v1 bG (zL gn gr gm gz s9 gL gG));have pX := zh (dV.nj HG.out gn gr gm gz s9 gL gG);replace Ff := zh (fw.gen Ff.out HG.out (zL gn gr gm gz s9 gL gG));replace HR := zh (fq.Tx HR.out HNb.out HG.out (zL gn gr gm gz s9 gL gG));replace HX := zh (dV.eu (c := bG) (by omega) (zL gn gr gm gz s9 gL gG) HX.out)
   replace HZ := zh (dV.eu (c := bG) (by omega) (zL gn gr gm gz s9 gL gG) HZ.out);replace HB := zh (zD (B := w.heap.size) (b := bG) (by omega) (zL gn gr gm gz s9 gL gG) HB.out);clear HG;generalize pts v1 bG (zL gn gr gm gz s9 gL gG) = v2 at *
   by_cases Ty : ae = 0
   ·
    subst Ty;have OT := zh (Cg.out.trans (ag rfl));clear Cg;obtain ⟨ti, tl, Yt, tg9⟩ := t;dsimp only at OQ HX OT;obtain rfl : tg9 = dZ L' := OQ.out.symm;have Ai := zh (Yx ti tl Yt a' n' c' L' v2 HR.out (wm (WX.out.mono (by decide)) (ai _)) (⟨gn, gr, gm, gz, ⟨gf, gL, gG⟩⟩, s9) Ff.out NI.out);dsimp only at Ai;generalize yb ⟨ti, tl, Yt, dZ L'⟩ ⟨gn, gr, gm, gz, ⟨gf, gL, gG⟩⟩ = CS at *;obtain ⟨⟨ci, cl, cr, cg⟩, ce⟩ := CS;obtain ⟨g0, g1, g2, g3, g4, g5, g6, g7, g8, g9, g10, g11, g12, g13⟩ := (dV.gen pX.out).q;obtain ⟨k0, k1, k2, k3⟩ := (dV.g_ HX.out).q;go_wp2_with fail;refine Ai.out.mono ?_;rintro e v3 ⟨⟨xa, xn, xc, xL, rfl, G7, oF⟩, hb⟩;dsimp only at oF ⊢;clear k0 k1 k2 k3;clear g0 g1 g2 g3 g4 g5 g6 g7 g8 g9 g10 g11 g12 g13;have lj := zh G7.rd;have iE := zh oF;replace HZ := zh (HZ.out.below hb);replace HB := zh (zA HB.out hb);clear hb G7 oF Ai pX Ff;have rS := zh (dV.g_ HZ.out)
    obtain ⟨z0, z1, z2, z3⟩ := rS.out.q;have zf := rS.out.f;go_wp2_with fail;change bodyPost _ _ _ _ _ (pts v3 (w.heap.size + 1 + 1) (zJ ci cl cr xa xn xc));have rZ := zh (fq.g_ lj.out HZ.out (zJ ci cl cr xa xn xc));have hby := rS.out.all ci cl cr xa xn xc;have ek := zh (zD (B := w.heap.size) (b := (w.heap.size + 1 + 1)) (by omega) (zJ ci cl cr xa xn xc) HB.out);generalize pts v3 (w.heap.size + 1 + 1) (zJ ci cl cr xa xn xc) = V at *;exact aw (v := .tuple #[zZ ci cl cr xa xn xc, .int .i64 ce]) (by simp [results, Tryz.results31, go_sem, hby.c0, hby.c1, hby.c2, hby.c3]) rfl (by rw [OT.out]; exact ⟨⟨xa, xn, xc, xL, rfl, rZ.out, iE.out⟩, ek.out⟩)
   have hz : (ae == 0) = false := beq_eq_false_iff_ne.2 Ty;have OT := zh (show AP = (xP, ae) from Cg.out.trans (ah Ty));have rS := zh (dV.g_ HZ.out);obtain ⟨z0, z1, z2, z3⟩ := rS.out.q;have zf := rS.out.f;go_wp2_with fail;change bodyPost _ _ _ _ _ (pts v2 (w.heap.size + 1 + 1) (zJ 0 0 false none 0 0));have hby := rS.out.all 0 0 false none 0 0;have ek := zh (zD (B := w.heap.size) (b := (w.heap.size + 1 + 1)) (by omega) (zJ 0 0 false none 0 0) HB.out);generalize pts v2 (w.heap.size + 1 + 1) (zJ 0 0 false none 0 0) = V at *;exact aw (v := .tuple #[zZ 0 0 false none 0 0, .int .i64 ae]) (by simp [results, Tryz.results31, go_sem, hby.c0, hby.c1, hby.c2, hby.c3]) rfl (by rw [OT.out]; exact iu.no ek.out)
  have r_ := zh (FB.out.trans (ag rfl));clear FB;have El := zh (zJa i l r a n c L w2 HR.out (wm (HL.out.mono (by decide)) (ai _)));obtain ⟨k0, k1, k2, k3⟩ := (dV.g_ HX.out).q;go_wp2_with fail;refine El.out.mono ?_;rintro e w3 ⟨⟨xa, xn, xc, xL, rfl, DI, oF⟩, hb⟩;clear k0 k1 k2 k3;generalize xO ⟨i, l, r, dZ L⟩ = RS at *;obtain ⟨⟨ri, rl, rr, rg⟩, re⟩ := RS;dsimp only at oF ⊢;have lj := zh DI;have iE := zh oF;replace HZ := zh (HZ.out.below hb);replace HB := zh (zA HB.out hb);clear hb DI oF;have rS := zh (dV.g_ HZ.out);obtain ⟨z0, z1, z2, z3⟩ := rS.out.q;have zf := rS.out.f;go_wp2_with fail;change bodyPost _ _ _ _ _ (pts w3 (w.heap.size + 1 + 1) (zJ ri rl rr xa xn xc));have rZ := zh (fq.g_ lj.out HZ.out (zJ ri rl rr xa xn xc));have hby := rS.out.all ri rl rr xa xn xc;have ek := zh (zD (B := w.heap.size) (b := (w.heap.size + 1 + 1)) (by omega) (zJ ri rl rr xa xn xc) HB.out)
  generalize pts w3 (w.heap.size + 1 + 1) (zJ ri rl rr xa xn xc) = V at *;exact aw (v := .tuple #[zZ ri rl rr xa xn xc, .int .i64 re]) (by simp [results, Tryz.results31, go_sem, hby.c0, hby.c1, hby.c2, hby.c3]) rfl (by rw [r_.out]; exact ⟨⟨xa, xn, xc, xL, rfl, rZ.out, iE.out⟩, ek.out⟩)
 have FB := zh (show AP = (xP, 1) from by rw [← Gc.out]; unfold wg; rw [ah hv]);rw [show uG ⟨i, l, r, dZ L⟩ = (1, fW) from by unfold uG; rw [ah hv]] at HT;clear hv Gc;go_wp2_with fail;refine HT.out.mono ?_;rintro e w1 ⟨⟨sT, rfl, ho⟩, hb⟩;dsimp only at ho ⊢;replace HZ := zh (HZ.out.below hb);replace HB := zh (zA HB.out hb);clear ho hb HT k0 k1 k2 k3;go_upto_region 2 with fail;change Code.wp _ _ _ _ (w1.alloc (.cells (zW fW.num fW.rev fW.mode fW.size sT fW.m.live fW.m.dW) 38));have eH := zQ w1 fW.num fW.rev fW.mode fW.size sT fW.m.live fW.m.dW 38;replace HZ := zh (HZ.out.below eH);replace HB := zh (zA HB.out eH);clear eH;generalize w1.alloc (.cells (zW fW.num fW.rev fW.mode fW.size sT fW.m.live fW.m.dW) 38) = w2 at *;have rS := zh (dV.g_ HZ.out);obtain ⟨z0, z1, z2, z3⟩ := rS.out.q;have zf := rS.out.f;go_wp2_with fail
 change bodyPost _ _ _ _ _ (pts w2 (w.heap.size + 1 + 1) (zJ 0 0 false none 0 0));have hby := rS.out.all 0 0 false none 0 0;have ek := zh (zD (B := w.heap.size) (b := (w.heap.size + 1 + 1)) (by omega) (zJ 0 0 false none 0 0) HB.out);generalize pts w2 (w.heap.size + 1 + 1) (zJ 0 0 false none 0 0) = V at *;exact aw (v := .tuple #[zZ 0 0 false none 0 0, .int .i64 1]) (by simp [results, Tryz.results31, go_sem, hby.c0, hby.c1, hby.c2, hby.c3]) rfl (by rw [FB.out]; exact iu.no ek.out)
/-! ### What Make answers there, in plain Lean -/
def lQ : eL := ⟨0, 9000, false, [fresh 1]⟩
theorem lz : eo lQ := (zR _).1 (NU 0 9000 false (by decide))
def mg : Rq := ⟨0, 1, 1, 0, []⟩
def jA : Rq := ⟨0, 2, 1, 0, []⟩
theorem zKs : (zm lQ []).2 = 0 ∧ (zm lQ []).1.res = [] ∧ (zm lQ []).1.needs.length = 0 := by
 unfold zm;rw [ag ((zR _).2 lz)];exact ⟨rfl, rfl, rfl⟩
theorem zIm : wW lQ 0 = true := by
 unfold wW;rw [(zR _).2 lz]
 rfl
theorem Yu : zy lQ mg = 0 := by
 unfold zy;rw [ah (by decide), ag (show wW lQ ((mg.data.length : Nat) : Int) = true from zIm)]
theorem zIc (key : Int) : ze (zS lQ).m key = none := by
 rw [← k4];have h : zI (zS lQ).m = [] := Xi 1;rw [h]; rfl
theorem zFI {t : eL} (h : eo t) (h1 : t.dU.length = 1) (key : Int) : zk t key = [] := by
 rw [XM h, h1]; rfl
theorem zFn : xI lQ jA = 6 := by
 have h : yM lQ (jA.key : Int) = [] := by
  rw [RA lz, RB lz, zIc]; rfl
 unfold xI;rw [h, ah (by simp)]
theorem zKJ : (zm lQ [jA]).2 = 0 ∧ (zm lQ [jA]).1.res = [6] ∧ (zm lQ [jA]).1.needs.length = 0 := by
 have h1 : zT (yR lQ) jA = (true, more (yR lQ) 6) := vX (by decide) rfl zFn;unfold zm;rw [ag ((zR _).2 lz), xo (by rw [h1]), h1];exact ⟨rfl, rfl, rfl⟩
theorem zKR : (zm lQ [mg, jA]).2 = 0 ∧ (zm lQ [mg, jA]).1.res = [0, 0] ∧ (zm lQ [mg, jA]).1.needs.length = 2 := by
 have hc : qw (yR lQ).t (uy mg) := kq lz Yu;have h1 : zT (yR lQ) mg = (true, more (vH (yR lQ) (uy mg)) 0) := uT (by decide) rfl Yu (by simp [yR]);have hk := OH (P := yR lQ) lz hc;have ht := S0 (P := yR lQ) lz hc;generalize hP : more (vH (yR lQ) (uy mg)) 0 = P1 at *;have hPt : P1.t = (vH (yR lQ) (uy mg)).t := by rw [← hP]; rfl
 have hPr : P1.res = [0] := by rw [← hP]; rfl
 have hPn : P1.needs = [uy mg] := by rw [← hP]; rfl
 have hPb : P1.bytes = 24 := by rw [← hP]; rfl
 rw [← hPt] at hk ht;have hv := hk.v;have hlen : P1.t.dU.length = 1 := hk.len;have Ml : zS P1.t = yT (zS lQ) (uy mg) := by rw [ht]; exact Zx lz _
 have hg : ze (zS P1.t).m ((jA.key : Nat) : Int) = some (Bh (zS lQ) (uy mg)) := by
  rw [Ml, zEu lz.sR.1 ⟨au _, fun e => (by cases e)⟩ (by decide)]
  rfl
 have hall : yM P1.t ((jA.key : Nat) : Int) = [⟨(zS P1.t).num, (zS P1.t).mode, (zS P1.t).rev, Bh (zS lQ) (uy mg), 0⟩] := by
  rw [RA hv, RB hv, hg, hlen]; rfl
 have hcd : xI P1.t jA = 0 := by
  unfold xI;rw [hall, ag ⟨rfl, rfl⟩]
 have hks : yW P1 ((jA.key : Nat) : Int) = P1 := by
  unfold yW;rw [zFI hv hlen]; rfl
 have hd : yZ P1 jA = vH P1 (Dj jA) := by
  unfold yZ;rw [hks, ag ((tX hv _).2 (by rw [hg]; exact fun e => (by cases e)))]
 have h2 : zT P1 jA = (true, more (vH P1 (Dj jA)) 0) := by
  rw [← hd];exact vM (by rw [hPr]; decide) rfl hcd (by rw [hPb]; omega)
 unfold zm;rw [ag ((zR _).2 lz), xo (by rw [h1]), h1, xo (by rw [h2]), h2];refine ⟨rfl, ?_, ?_⟩
 ·
  show P1.res ++ [0] = _
  rw [hPr]; rfl
 show (P1.needs ++ [_]).length = 2
 rw [hPn]; rfl
theorem Tz {l : List Rq} {R : List Int} {N : Nat} (hM : (zm lQ l).2 = 0 ∧ (zm lQ l).1.res = R ∧ (zm lQ l).1.needs.length = N) (b : Nat) (W : World) (hr : fq W (.slice (some ⟨b, 0, none⟩) 1 1) B5) (qa : Option Addr) (qn qc : Nat) (qs : List (Rq × Value)) (hq : oC W (.slice qa qn qc) qs) (hl : qs.map (·.1) = l) (hs : qs.length ≤ 2) (hd : ∀ p ∈ qs, p.1.data = []) :
  Calls Tryz.prog 22 #[zZ 0 9000 false (some ⟨b, 0, none⟩) 1 1, .slice qa qn qc] W fun e w' => ∃ ey ka kn kc na nc ra rc, e = .returned (.tuple #[NR ey (R.length : Int) (.slice ka kn kc) (.slice na N nc) (.slice ra R.length rc), .int .i64 0]) ∧ Rd w' 1 (.slice ra R.length rc) R.length (R.map Dp) ∧ Below W.heap.size W w' := by
 obtain ⟨_, _, e, _⟩ := hq.shape;injection e with _ e _;subst e;have h := ZS lQ (some ⟨b, 0, none⟩) 1 1 B5 qa qc qs W hr rfl (fun g hg i _ => by obtain rfl := List.mem_singleton.1 hg; exact au _) (by decide) hq (by omega) (fun p hp => by rw [hd p hp]; exact au _);rw [hl] at h;refine Calls.mono h ?_;rintro e w' ⟨kv, ks, nv, es, rv, rfl, hp, hb⟩;obtain ⟨h1, h2, h3⟩ := hM;obtain ⟨ka, kc, rfl, _⟩ := zO hp.k.row;obtain ⟨na, nc, rfl, _⟩ := zO hp.n.row;have IQ := zr hp.r;obtain ⟨ra, rc, rfl, _⟩ := zO hp.r;have hN : es.length = N := by rw [← h3, ← hp.nn, aI]
 rw [h1, h2, hN];rw [h2] at IQ;exact ⟨_, _, _, _, _, _, _, _, rfl, IQ, hb⟩
theorem zKT (W : World) : oC W (.slice none 0 0) [] := ⟨⟨fun x _ => vC x, Rd.nil W 5⟩, fun p hp => (by cases hp)⟩
theorem zF4 (W : World) (qs : List (Rq × Value)) (e : TypeId) (h : ∀ p ∈ qs, p.1.data = [] ∧ p.2 = .slice none 0 0) (hm : qs.length ≤ 10) : oC (W.alloc (.cells (qs.flatMap ny).toArray e)) (.slice (some ⟨W.heap.size, 0, none⟩) qs.length qs.length) qs :=
 ⟨⟨fun x _ => vC x, Rd.new W 5 _ e qs.length (yS 5 ny qs fun x _ => vC x) (ak hm (by decide))⟩, fun p hp => by
  obtain ⟨h1, h2⟩ := h p hp
  rw [h1, h2]; exact WA _⟩
def JW : List (Rq × Value) := [(mg, .slice none 0 0), (jA, .slice none 0 0)]
def JX : List (Rq × Value) := [(jA, .slice none 0 0)]
theorem zDj (w : World) : Calls Tryz.prog 19 #[] w fun e w' => e = .returned (.bool true) ∧ Below w.heap.size w w' := by
 have Du := zh (zIo 0 9000 (by decide) w)
 go_enter Tryz.func19, Tryz.ntmps19
 go_wp2_with fail;refine Du.out.mono ?_;rintro e w1 ⟨b, rfl, jN, hg, hb⟩;have HR := zh (NV hg);have HB := zh hb;clear hg hb jN Du;go_upto_region 2 with fail;change Code.wp _ _ _ _ (w1.alloc (.cells (zK 0 9000 false (some ⟨b, 0, none⟩) 1 1) 27));have eH := zN w1 0 9000 false (some ⟨b, 0, none⟩) 1 1 27;have HS := zh (dV.new w1 (zK 0 9000 false (some ⟨b, 0, none⟩) 1 1) 27);replace HR := zh (HR.out.below eH);replace HB := zh (zA HB.out eH);clear eH;generalize w1.alloc (.cells (zK 0 9000 false (some ⟨b, 0, none⟩) 1 1) 27) = w2 at *;generalize w1.heap.size = bS at *;have HM := zh (Tz zKs b w2 HR.out none 0 0 [] (zKT w2) rfl (by decide) (fun p hp => by cases hp));obtain ⟨k0, k1, k2, k3⟩ := (dV.g_ HS.out).q;go_wp2_with fail;refine HM.out.mono ?_;rintro e w3 ⟨ey, ka, kn, kc, na, nc, ra, rc, rfl, IQ, hb⟩;replace HS := zh (HS.out.below hb);replace HR := zh (HR.out.below hb)
 replace HB := zh (zA HB.out hb);clear hb IQ HM k0 k1 k2 k3;go_upto_region 3 with fail;change Code.wp _ _ _ _ (w3.alloc (.cells (xD ey 0 (.slice ka kn kc) (.slice na 0 nc) (.slice ra 0 rc)) 71));have eH := (aj w3.heap.size w3).alloc (ai _) (.cells (xD ey 0 (.slice ka kn kc) (.slice na 0 nc) (.slice ra 0 rc)) 71);have HP := zh (dV.new w3 (xD ey 0 (.slice ka kn kc) (.slice na 0 nc) (.slice ra 0 rc)) 71);replace HS := zh (HS.out.below eH);replace HR := zh (HR.out.below eH);replace HB := zh (zA HB.out eH);clear eH;generalize w3.alloc (.cells (xD ey 0 (.slice ka kn kc) (.slice na 0 nc) (.slice ra 0 rc)) 71) = w4 at *;generalize w3.heap.size = bP at *
 -- the second
 have eH := (aj w4.heap.size w4).alloc (ai _) (.cells (JW.flatMap ny).toArray 85);have gR := zh (zF4 w4 JW 85 (fun p hp => by simp [JW] at hp; rcases hp with rfl | rfl <;> exact ⟨rfl, rfl⟩) (by decide));have sI := zh (Tz zKR b _ (HR.out.below eH) _ _ _ JW gR.out rfl (by decide) (fun p hp => by simp [JW] at hp; rcases hp with rfl | rfl <;> rfl));obtain ⟨k0, k1, k2, k3⟩ := (dV.g_ HS.out).q;go_wp2_with fail;change Calls _ _ _ (w4.alloc (.cells (JW.flatMap ny).toArray 85)) _;refine sI.out.mono ?_;rintro e w5 ⟨Fg, L_, OU, Ma, MC, MD, ME, MF, rfl, IU, hb⟩;have fc := zA eH hb;replace HS := zh (HS.out.below fc);replace HR := zh (HR.out.below fc);replace HP := zh (HP.out.below fc);replace HB := zh (zA HB.out fc);clear hb fc eH sI gR k0 k1 k2 k3;dsimp only [List.length_cons, List.length_nil, List.map_cons, List.map_nil] at IU ⊢;go_upto_region 4 with fail
 change Code.wp _ _ _ _ (w5.alloc (.cells (xD Fg 2 (.slice L_ OU Ma) (.slice MC 2 MD) (.slice ME 2 MF)) 71));have eH := (aj w5.heap.size w5).alloc (ai _) (.cells (xD Fg 2 (.slice L_ OU Ma) (.slice MC 2 MD) (.slice ME 2 MF)) 71);have mq := zh (dV.new w5 (xD Fg 2 (.slice L_ OU Ma) (.slice MC 2 MD) (.slice ME 2 MF)) 71);replace HS := zh (HS.out.below eH);replace HR := zh (HR.out.below eH);replace HP := zh (HP.out.below eH);replace HB := zh (zA HB.out eH);have DJ := zh (IU.below eH);clear eH IU;generalize w5.alloc (.cells (xD Fg 2 (.slice L_ OU Ma) (.slice MC 2 MD) (.slice ME 2 MF)) 71) = w6 at *;generalize w5.heap.size = TA at *;have eH := (aj w6.heap.size w6).alloc (ai _) (.cells (JX.flatMap ny).toArray 85);have Iz := zh (zF4 w6 JX 85 (fun p hp => by simp [JX] at hp; subst hp; exact ⟨rfl, rfl⟩) (by decide))
 have Np := zh (Tz zKJ b _ (HR.out.below eH) _ _ _ JX Iz.out rfl (by decide) (fun p hp => by simp [JX] at hp; subst hp; rfl));obtain ⟨k0, k1, k2, k3⟩ := (dV.g_ HS.out).q;go_wp2_with fail;change Calls _ _ _ (w6.alloc (.cells (JX.flatMap ny).toArray 85)) _;refine Np.out.mono ?_;rintro e w7 ⟨Fh, BD, OV, BF, MG, MH, MI, MJ, rfl, IV, hb⟩;have fc := zA eH hb;replace HS := zh (HS.out.below fc);replace HR := zh (HR.out.below fc);replace HP := zh (HP.out.below fc);replace mq := zh (mq.out.below fc);replace DJ := zh (DJ.out.below fc);replace HB := zh (zA HB.out fc);clear hb fc eH Np Iz k0 k1 k2 k3;dsimp only [List.length_cons, List.length_nil, List.map_cons, List.map_nil] at IV ⊢;go_upto_region 5 with fail;change Code.wp _ _ _ _ (w7.alloc (.cells (xD Fh 1 (.slice BD OV BF) (.slice MG 0 MH) (.slice MI 1 MJ)) 71))
 have eH := (aj w7.heap.size w7).alloc (ai _) (.cells (xD Fh 1 (.slice BD OV BF) (.slice MG 0 MH) (.slice MI 1 MJ)) 71);have TB := zh (dV.new w7 (xD Fh 1 (.slice BD OV BF) (.slice MG 0 MH) (.slice MI 1 MJ)) 71);replace HS := zh (HS.out.below eH);replace HR := zh (HR.out.below eH);replace HP := zh (HP.out.below eH);replace mq := zh (mq.out.below eH);replace DJ := zh (DJ.out.below eH);replace HB := zh (zA HB.out eH);have TC := zh (IV.below eH);clear eH IV;generalize w7.alloc (.cells (xD Fh 1 (.slice BD OV BF) (.slice MG 0 MH) (.slice MI 1 MJ)) 71) = w8 at *;generalize w7.heap.size = TD at *;have p0 : w8.cell? ⟨bP, 1, none⟩ = some (.int .i64 0) := dV.cell HP.out rfl;have p1 : w8.cell? ⟨TA, 1, none⟩ = some (.int .i64 2) := dV.cell mq.out rfl;have p3 : w8.cell? ⟨TA, 3, none⟩ = some (.slice MC 2 MD) := dV.cell mq.out rfl
 have p4 : w8.cell? ⟨TA, 4, none⟩ = some (.slice ME 2 MF) := dV.cell mq.out rfl;have s1 : w8.cell? ⟨TD, 1, none⟩ = some (.int .i64 1) := dV.cell TB.out rfl;have s3 : w8.cell? ⟨TD, 3, none⟩ = some (.slice MG 0 MH) := dV.cell TB.out rfl;have s4 : w8.cell? ⟨TD, 4, none⟩ = some (.slice MI 1 MJ) := dV.cell TB.out rfl;obtain ⟨_, _, _, e2, _, _, _, hc2⟩ := DJ.out;injection e2 with e2 _ _;obtain ⟨bx, ox, e3, hc2⟩ := hc2 (by decide);obtain rfl := e2.trans e3;have r0 : w8.cell? ⟨bx, ox, none⟩ = some (.int .i64 0) := hc2 0 _ rfl;have r1 : w8.cell? ⟨bx, ox + 1, none⟩ = some (.int .i64 0) := hc2 1 _ rfl;obtain ⟨_, _, _, e4, _, _, _, hc3⟩ := TC.out;injection e4 with e4 _ _;obtain ⟨mf, oy, e5, hc3⟩ := hc3 (by decide);obtain rfl := e4.trans e5;have t0 : w8.cell? ⟨mf, oy, none⟩ = some (.int .i64 6) := hc3 0 _ rfl;clear e2 e3 hc2 e4 e5 hc3;go_wp2_with fail;go_ret;exact ⟨rfl, HB.out⟩
def Em (x : Nd) : Nd := ⟨x.key % 8, x.ck % 4, x.del, if x.del then [] else x.data.take 30⟩
def CO (n : Nat) (l : List Nd) : List Nd := (l.take n).map Em
theorem zKS (x : Nd) : (Em x).data.length ≤ 30 := by
 unfold Em;dsimp only
 split
 ·
  simp
 rw [ay]; omega
theorem TE (n : Nat) (l : List Nd) : (CO n l).length ≤ n := by unfold CO; rw [aI, ay]; omega
theorem zEh (n : Nat) (l : List Nd) : ∀ x ∈ CO n l, x.data.length ≤ 30 := fun x hx => by
 obtain ⟨y, _, rfl⟩ := List.mem_map.1 hx;exact zKS y
theorem zLe (l : List Nd) : ic (CO 6 l) ≤ 400 := by
 have key : ∀ k : List Nd, (∀ x ∈ k, x.data.length ≤ 30) → ic k ≤ k.length * 56 := by
  intro k
  induction k with
  | nil => intro _; exact au _
  | cons x r ih =>
   intro h;have h1 := ih fun y hy => h y (by simp [hy])
   have h2 := h x (by simp);have h3 : eM x.data.length ≤ 56 := by rw [J4 (by omega)]; unfold oQ; omega
   rw [wu, aX]; omega
 have h1 := key _ (zEh 6 l);have h2 := TE 6 l;omega
noncomputable def uo (s : eL) (kd : Int) (ns : List Nd) (gen : Int) (keys : List Int) : eL :=
 if kd = 4 ∨ kd = 5 then (if (xO s).2 = 0 then (xO s).1 else s)
 else if kd = 6 then vV s (ye (eN s.dU (gen % (s.dU.length : Int)).toNat) (keys.take 8))
 else if kd = 7 then vV s (xK (eN s.dU (gen % (s.dU.length : Int)).toNat) 2)
 else vV s (yt (zS s) (CO 6 ns))
noncomputable def TF (s : eL) (x : nG) : eL := uo s (x.kind % 8) (x.l.map (·.1)) x.gen x.keys
noncomputable def wE (s : eL) (l : List nG) : eL := l.foldl TF s
noncomputable def IW (l : List nG) : eL := wE B7 (l.take 8)
theorem ke (l : List nG) (i : Nat) (h : i < l.length) : wE B7 (l.take (i + 1)) = TF (wE B7 (l.take i)) (kB l i) := by
 unfold wE kB;rw [cV, ax, aB h, dt]
 rfl
theorem zCD {g : Gn} {m : Int} (h : (xK g m).1 = 0) : (xK g m).2 = { g with mode := m + 1 } := by
 unfold xK at h ⊢
 split
 ·
  rename_i h1;rw [ag h1] at h
  split
  ·
   rfl
  rename_i h2; rw [ah h2] at h; cases h
 rename_i h1; rw [ah h1] at h; cases h
theorem zFA {n : Nat} {s : eL} (h : iI n s) (kd : Int) (ns : List Nd) (gen : Int) (keys : List Int) : iI (n + 1) (uo s kd ns gen keys) := by
 have hg : eN s.dU (gen % (s.dU.length : Int)).toNat ∈ s.dU := th (by
  have h1 := h.v.len
  have h2 := Int.emod_lt_of_pos gen (show (0 : Int) < (s.dU.length : Int) by omega)
  have h3 := Int.emod_nonneg gen (show (s.dU.length : Int) ≠ 0 by omega)
  omega)
 unfold uo
 split
 ·
  have := Xz h 2 ns gen keys;unfold Ll at this;exact this
 split
 ·
  have := Xz h 3 ns gen keys;unfold Ll at this;exact this
 split
 ·
  unfold vV
  split
  ·
   rename_i hr;obtain ⟨h1, h2⟩ := hr;refine h.NZ h2 ?_ ?_
   ·
    rw [zCD h1];intro i hi;exact ak (h.len _ hg i hi) (by omega)
   rw [zCD h1];have := h.FY _ hg;dsimp only; omega
  exact h.up
 unfold vV
 split
 ·
  rename_i hr;obtain ⟨h1, h2⟩ := hr;have ht := uX h.v;refine h.NZ h2 ?_ ?_
  ·
   rw [kI h1];intro i hi;have := wL (CO 6 ns) _ (h.len _ ht) i hi;have := TE 6 ns;omega
  rw [kI h1, wP];have := h.FY _ ht;have := zLe ns;omega
 exact h.up
theorem tF (l : List nG) : ∀ i, i ≤ l.length → iI i (wE B7 (l.take i))
 | 0, _ => zF1
 | i + 1, h => by
  rw [ke l i (by omega)];exact zFA (tF l i (by omega)) _ _ _ _
theorem zGo (l : List nG) : iI 8 (IW l) := by
 have h1 : ∀ i j, i ≤ j → ∀ s, iI i s → iI j s := by
  intro i j hij;obtain ⟨d, rfl⟩ : ∃ d, j = i + d := ⟨j - i, by omega⟩
  clear hij
  induction d with
  | zero => exact fun s h => h
  | succ d ih => exact fun s h => (ih s h).up
 have h2 := tF (l.take 8) (l.take 8).length (ai _);rw [aR (ai _)] at h2;exact h1 _ 8 (by rw [ay]; omega) _ h2
theorem zIv : xj Tryz.prog 74 85 5 56 := by
 obtain ⟨i, hi, hz, hs, hb⟩ := cn (P := Tryz.prog) (e := 85) (z := .agg #[.int .i64 0, .int .i64 0, .int .u64 0, .int .u32 0, .slice none 0 0]) (size := 5) (bytes := 56) (by kernel_rfl);exact ⟨Tryz.underlying74, by decide, i, _, hi, hz, hs, hb, rfl⟩
theorem zKi (qs : List (Rq × Value)) (i : Nat) (h : i < qs.length) : (qs.take (i + 1)).flatMap ny = (qs.take i).flatMap ny ++ ny (jX qs i) := by
 rw [cV, aB h, b_]
 congr 1
 unfold jX;rw [ax, aB h];simp
theorem zDf (v : Value) (qs : List (Rq × Value)) (w : World) (h : oC w v qs) (Jn : qs.length ≤ 1000000) :
  Calls Tryz.prog 24 #[v] w fun e w' => ∃ v', e = .returned v' ∧ w'.ownsRow w.heap.size 85 5 v' qs.length (qs.flatMap ny) ∧ Below w.heap.size w w' := by
 obtain ⟨a, cap, rfl, h1, h2⟩ := h.shape;have HQ := zh h;have HT := zh (zKi qs);have HE := zh (show (qs.take qs.length).flatMap ny = qs.flatMap ny by rw [ct]);clear h;generalize hn : qs.length = n at *;clear hn
 go_enter Tryz.func24, Tryz.ntmps24
 go_wp2_with fail
 go_loopw [3, 8] (fun ov iv W => ∃ i : Nat, iv = .int .i64 (i : Int) ∧ i ≤ n ∧ Hid (W.ownsRow w.heap.size 85 5 ov i ((qs.take i).flatMap ny)) ∧ Hid (Below w.heap.size w W)) (fun _ iv _ => n - (intOf iv).toNat)
 case atStart => exact ⟨0, rfl, au _, zh (aU _ _ _ _), zh (aj _ _)⟩
 obtain ⟨i, rfl, hi, HO, HB⟩ := hrel;obtain ⟨oa, oc, sH, ho1, ho2, _⟩ := zO HO.out;subst sH
 by_cases hin : i < n
 ·
  have i1 : (i : Int) < (n : Int) := by omega
  obtain ⟨qb, qo, e0, hd, c0, c1, c2, c3, c4⟩ := (HQ.out.below HB.out).at (j := i) hin;subst e0;have hT := HT.out i hin;obtain ⟨da, dc, TH, _⟩ := hd.gw;rw [TH] at c4;have hX : ny (jX qs i) = [.int .i64 (jX qs i).1.tk, .int .i64 (jX qs i).1.kind, .int .u64 ((jX qs i).1.key : Int), .int .u32 ((jX qs i).1.ck : Int), .slice da (jX qs i).1.data.length dc] := by show [_, _, _, _, _] = _; rw [TH]
  rw [hX] at hT;have Jw := zh hT;clear hX hT hd TH;generalize (jX qs i).1.data.length = dn at *;generalize (jX qs i).1.tk = tk at *;generalize (jX qs i).1.kind = kd at *;generalize ((jX qs i).1.key : Int) = ky at *;generalize ((jX qs i).1.ck : Int) = ck at *;have hsz : w.heap.size ≤ wr.heap.size := HB.out.size;have hb5 := (aj wr.heap.size wr).alloc (ai _) (.cells #[.int .i64 tk, .int .i64 kd, .int .u64 ky, .int .u32 ck, .slice da dn dc] 63);have HX := zh (dV.new wr #[.int .i64 tk, .int .i64 kd, .int .u64 ky, .int .u32 ck, .slice da dn dc] 63);have jE := zh (zH HO.out hb5);have gp := zh (HB.out.trans (hb5.mono hsz));have pE := ak hsz hb5.size;clear hb5;go_upto_region 5 with fail;change Code.wp _ _ _ _ (wr.alloc (.cells #[.int .i64 tk, .int .i64 kd, .int .u64 ky, .int .u32 ck, .slice da dn dc] 63))
  generalize wr.alloc (.cells #[.int .i64 tk, .int .i64 kd, .int .u64 ky, .int .u32 ck, .slice da dn dc] 63) = w5 at *;have x0 := HX.out.cell (i := 0) rfl;have x1 := HX.out.cell (i := 1) rfl;have x2 := HX.out.cell (i := 2) rfl;have x3 := HX.out.cell (i := 3) rfl;have x4 := HX.out.cell (i := 4) rfl;clear c0 c1 c2 c3 c4 HB HO;have l6 := (aj w5.heap.size w5).alloc (ai _) (.cells #[.int .i64 tk, .int .i64 kd, .int .u64 ky, .int .u32 ck, .slice da dn dc] 85);have mo := zh (zH jE.out l6);have jG := zh (gp.out.trans (l6.mono pE));have MK := ak pE l6.size;clear l6
  go_wp2_with (at_builtin; go_must (refine zd (n := i) (m := 1) rfl (.tmp 12) (.tmp 24) 74 rfl zIv w.heap.size rfl mo.out rfl (Rd.nu w5.heap.size w5 rfl 5 [.int .i64 tk, .int .i64 kd, .int .u64 ky, .int .u32 ck, .slice da dn dc] 85 1 rfl (by decide)) (fun u hu => by simp only [cB, cC, or_false] at hu; rcases hu with h | h | h | h | h <;> rw [h] <;> rfl) (by unfold maxLen; omega) (by omega) MK ?_); intro v3 w7 ei eW hv3; clear hv3);have Be := zh (show w7.ownsRow w.heap.size 85 5 v3 (i + 1) ((qs.take (i + 1)).flatMap ny) by rw [Jw.out]; exact ei);have BU := zh (zM jG.out mo.out MK eW);clear ei eW;go_wp2_with fail;exact ⟨⟨i + 1, by go_num, by omega, Be, BU⟩, by simp [intOf]; omega⟩
 have i1 : ¬ (i : Int) < (n : Int) := by omega
 obtain rfl : i = n := by omega
 go_wp2_with fail;go_ret;exact ⟨_, rfl, by rw [← HE.out]; exact HO.out, HB.out⟩
end Go.Proofs.YtcgfilmmokmdjaaGreat
