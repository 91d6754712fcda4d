/- A part of the walk. -/
import Derived.Test.YtcgfilmmokmdjaaGreatQAU
import Derived.Test.YtcgfilmmokmdjaaGreatQAL
import Derived.Test.YtcgfilmmokmdjaaGreatQAN
set_option maxRecDepth 100000
set_option maxHeartbeats 32000000
namespace Go.Proofs.YtcgfilmmokmdjaaGreat
open Go.RowKit
theorem eS.DE {W W' : World} {B B' g n c : Nat} {xs : List Value} {s : Sl} {f : Nat → List It} (ho : eS W B' s f) (h : W.ownsRow B 38 14 (.slice (some ⟨g, 0, none⟩) n c) n xs) (hg : W.grownBy W' (some g)) : eS W' B' s f := fun i hi =>
 (ho i hi).kept hg (by
  have h1 := YE h ho i hi
  cases hv : (s.v i).ownBlock with
  | none => exact .inl rfl
  | some b => exact .inr fun e => h1 (by rw [hv]; exact e))
theorem zKu (i l : Int) (r : Bool) (a : Option Addr) (n c : Nat) (L : List GP) (w : World) (h : fl w (.slice a n c) L) (hs : ∀ p ∈ L, ∀ j, j < 8 → (p.1.m.st j).length ≤ 10000) (hv : zg ⟨i, l, r, dV L⟩ = false) :
  Calls Tryz.prog 15 #[zZ i l r a n c] w (ig w (xO ⟨i, l, r, dV L⟩)) := by
 have gp := zh (fun W (hb : Below w.heap.size w W) => yQ i l r a n c L W (h.below hb) hs);have HC := zh (show xO ⟨i, l, r, dV L⟩ = (xP, 1) by unfold xO; rw [hv]; rfl);rw [hv] at gp;clear h hs hv
 go_enter Tryz.func15, Tryz.ntmps15
 go_upto_region 1 with fail;change Code.wp _ _ _ _ ((w.alloc (.cells (zK i l r a n c) 27)).alloc (.cells (zK 0 0 false none 0 0) 27));obtain ⟨W, hW, fa, f_, fu⟩ := ua w i l r a n c 27;rw [hW];have HX := zh fa;have HR := zh f_;have HB := zh fu;clear hW fa f_ fu;obtain ⟨k0, k1, k2, k3⟩ := HX.out.q;go_wp2_with fail;refine (gp.out _ HB.out).mono ?_;rintro e w1 ⟨rfl, hb⟩;replace HX := zh (HX.out.below hb);replace HR := zh (HR.out.below hb);replace HB := zh (zA HB.out hb);clear hb;clear k0 k1 k2 k3;obtain ⟨z0, z1, z2, z3⟩ := HR.out.q;have zf := HR.out.f;go_wp2_with fail;change bodyPost _ _ _ _ _ (pts w1 (w.heap.size + 1) (zJ 0 0 false none 0 0));have hby := HR.out.all 0 0 false none 0 0;have ea := zh (zD (B := w.heap.size) (b := (w.heap.size + 1)) (by omega) (zJ 0 0 false none 0 0) HB.out);generalize pts w1 (w.heap.size + 1) (zJ 0 0 false none 0 0) = V at *
 exact aw (v := .tuple #[zZ 0 0 false none 0 0, .int .i64 1]) (by simp [results, Tryz.results15, go_sem, hby.c0, hby.c1, hby.c2, hby.c3]) rfl (by rw [HC.out]; exact ig.no ea.out)
theorem zHl (i l : Int) (r : Bool) (a : Option Addr) (n c : Nat) (L : List GP) (w : World) (h : fl w (.slice a n c) L) (hs : ∀ p ∈ L, ∀ j, j < 8 → (p.1.m.st j).length ≤ 10000) (hv : zg ⟨i, l, r, dV L⟩ = true) (mX : ¬ (zS ⟨i, l, r, dV L⟩).num < 8) :
  Calls Tryz.prog 15 #[zZ i l r a n c] w (ig w (xO ⟨i, l, r, dV L⟩)) := by
 have gp := zh (fun W (hb : Below w.heap.size w W) => yQ i l r a n c L W (h.below hb) hs);have Ce := zh (fun W (hb : Below w.heap.size w W) => qY i l r a n c L W (h.below hb) hs);have HC := zh (show xO ⟨i, l, r, dV L⟩ = (xP, 9) by unfold xO; rw [ag hv, ah mX]);rw [hv] at gp;rw [show xe ⟨i, l, r, dV L⟩ = false by unfold xe; rw [hv]; simpa using mX] at Ce;clear h hs hv mX
 go_enter Tryz.func15, Tryz.ntmps15
 go_upto_region 1 with fail;change Code.wp _ _ _ _ ((w.alloc (.cells (zK i l r a n c) 27)).alloc (.cells (zK 0 0 false none 0 0) 27));obtain ⟨W, hW, fa, f_, fu⟩ := ua w i l r a n c 27;rw [hW];have HX := zh fa;have HR := zh f_;have HB := zh fu;clear hW fa f_ fu;obtain ⟨k0, k1, k2, k3⟩ := HX.out.q;go_wp2_with fail;refine (gp.out _ HB.out).mono ?_;rintro e w1 ⟨rfl, hb⟩;replace HX := zh (HX.out.below hb);replace HR := zh (HR.out.below hb);replace HB := zh (zA HB.out hb);clear hb;clear k0 k1 k2 k3;obtain ⟨k0, k1, k2, k3⟩ := HX.out.q;go_wp2_with fail;refine (Ce.out _ HB.out).mono ?_;rintro e w2 ⟨rfl, hb⟩;replace HX := zh (HX.out.below hb);replace HR := zh (HR.out.below hb);replace HB := zh (zA HB.out hb);clear hb;clear k0 k1 k2 k3;obtain ⟨z0, z1, z2, z3⟩ := HR.out.q;have zf := HR.out.f;go_wp2_with fail;change bodyPost _ _ _ _ _ (pts w2 (w.heap.size + 1) (zJ 0 0 false none 0 0))
 have hby := HR.out.all 0 0 false none 0 0;have ea := zh (zD (B := w.heap.size) (b := (w.heap.size + 1)) (by omega) (zJ 0 0 false none 0 0) HB.out);generalize pts w2 (w.heap.size + 1) (zJ 0 0 false none 0 0) = V at *;exact aw (v := .tuple #[zZ 0 0 false none 0 0, .int .i64 9]) (by simp [results, Tryz.results15, go_sem, hby.c0, hby.c1, hby.c2, hby.c3]) rfl (by rw [HC.out]; exact ig.no ea.out)
theorem zJb (i l : Int) (r : Bool) (a : Option Addr) (n c : Nat) (L : List GP) (w : World) (h : fl w (.slice a n c) L) (hs : ∀ p ∈ L, ∀ j, j < 8 → (p.1.m.st j).length ≤ 10000) (hv : zg ⟨i, l, r, dV L⟩ = true) (mX : (zS ⟨i, l, r, dV L⟩).num < 8) :
  Calls Tryz.prog 15 #[zZ i l r a n c] w (ig w (xO ⟨i, l, r, dV L⟩)) := by
 have gp := zh (fun W (hb : Below w.heap.size w W) => yQ i l r a n c L W (h.below hb) hs);have Ce := zh (fun W (hb : Below w.heap.size w W) => qY i l r a n c L W (h.below hb) hs);have hV := (zR _).1 hv;obtain ⟨E8, Ir, _⟩ := hV.sS;have fN : L.length = n := by
  obtain ⟨_, _, e, _⟩ := h.shape;injection e with _ e _; exact e.symm
 have hl : (dV L).length = n := by rw [zj, fN]
 have hn : 1 ≤ n ∧ n ≤ 8 := by have := hV.len; simp only [hl] at this; exact this
 obtain ⟨j, rfl⟩ : ∃ j, n = j + 1 := ⟨n - 1, by omega⟩
 have hC : xO ⟨i, l, r, dV L⟩ = (⟨i, l, r, (dV L).take j ++ [{ zS ⟨i, l, r, dV L⟩ with mode := 2 }, fresh ((zS ⟨i, l, r, dV L⟩).num + 1)]⟩, 0) := by
  unfold xO; rw [ag hv, ag mX]
  show ((⟨i, l, r, (dV L).take ((dV L).length - 1) ++ _⟩ : eE), (0 : Int)) = _
  rw [hl]; rfl
 rw [hv] at gp;rw [show xe ⟨i, l, r, dV L⟩ = true by unfold xe; rw [hv]; simpa using mX] at Ce;have jt := E8.num;have hls := hs _ (yd (l := L) (i := j) (by omega));rw [vP fN] at hC E8 Ir mX jt;have HTg := zh (show xK (pat L j).1 1 = (0, { (pat L j).1 with mode := 1 + 1 }) from by unfold xK; rw [ag ((yD _).2 E8), ag Ir]);have HC := zh hC;have ng := zh h;have JW := zh hs;have Ti := zh (show (dV L).length = j + 1 from hl);have EK := zh (fun M (e : dV M = dV L) => show (pat M j).1 = (pat L j).1 by rw [← yu, ← yu, e]);clear hV fN hl hv hs hC E8 h;generalize (pat L j).1 = tg at *;obtain ⟨num, rev, md, sz, ⟨f, LV, GA⟩⟩ := tg;dsimp only at *;subst Ir;have MI := zh hls;clear hls
 go_enter Tryz.func15, Tryz.ntmps15
 go_upto_region 1 with fail;change Code.wp _ _ _ _ ((w.alloc (.cells (zK i l r a (j + 1) c) 27)).alloc (.cells (zK 0 0 false none 0 0) 27));obtain ⟨W, hW, fa, f_, fu⟩ := ua w i l r a (j + 1) c 27;rw [hW];have HX := zh fa;have HR := zh f_;have HB := zh fu;clear hW fa f_ fu;have Iu : w.heap.size + 2 ≤ W.heap.size := by have := HR.out.lt; omega
 obtain ⟨k0, k1, k2, k3⟩ := HX.out.q;go_wp2_with fail;refine (gp.out _ HB.out).mono ?_;rintro e w1 ⟨rfl, hb⟩;replace HX := zh (HX.out.below hb);replace HR := zh (HR.out.below hb);replace HB := zh (zA HB.out hb);have iB := ak Iu hb.size;clear hb gp;clear k0 k1 k2 k3;obtain ⟨k0, k1, k2, k3⟩ := HX.out.q;go_wp2_with fail;refine (Ce.out _ HB.out).mono ?_;rintro e w2 ⟨rfl, hb⟩;replace HX := zh (HX.out.below hb);replace HR := zh (HR.out.below hb);replace HB := zh (zA HB.out hb);have oh := ak iB hb.size;clear hb Ce;clear k0 k1 k2 k3;obtain ⟨k0, k1, k2, k3⟩ := HX.out.q;go_wp2_with fail;refine (YG i l r a (j + 1) c L w2 (ng.out.below HB.out) JW.out (by omega)).mono ?_;rintro e w3 hq;obtain ⟨⟨a1, c1, M, rfl, ho, hg⟩, hb⟩ := hq;have o8 := zh (ho.lower oh);have jW := zh hg;clear k0 k1 k2 k3 ho hg;replace HX := zh (HX.out.below hb);replace HR := zh (HR.out.below hb);replace HB := zh (zA HB.out hb)
 have FT := ak oh hb.size;clear hb;obtain ⟨k0, k1, k2, k3⟩ := HX.out.q;have kf := HX.out.f;go_upto_region 6 with fail;clear k0 k1 k2 k3 kf;obtain ⟨g, rfl, hgB, nF⟩ := uJ o8.out.row (by omega);have gZ := zh (HX.out.all i l r (some ⟨g, 0, none⟩) (j + 1) c1);have jF := zh (HR.out.ek (d := w.heap.size) (by omega) (zJ i l r (some ⟨g, 0, none⟩) (j + 1) c1));have fM := zh (zD (B := w.heap.size) (b := w.heap.size) (ai _) (zJ i l r (some ⟨g, 0, none⟩) (j + 1) c1) HB.out);have iy := zh (o8.out.pts (b := w.heap.size) (by omega) (zJ i l r (some ⟨g, 0, none⟩) (j + 1) c1));have pF : w.heap.size + 2 ≤ (pts w3 w.heap.size (zJ i l r (some ⟨g, 0, none⟩) (j + 1) c1)).heap.size := by rw [wC]; exact FT
 have Tj : g < (pts w3 w.heap.size (zJ i l r (some ⟨g, 0, none⟩) (j + 1) c1)).heap.size := by rw [wC]; exact nF
 clear HX HR HB o8 nF;change Code.wp _ _ _ _ (pts w3 w.heap.size (zJ i l r (some ⟨g, 0, none⟩) (j + 1) c1));generalize pts w3 w.heap.size (zJ i l r (some ⟨g, 0, none⟩) (j + 1) c1) = w4 at *;have hat := Ox iy.out.row iy.out.len (show j < j + 1 by omega);have hpt := EK.out M jW.out;have hmr := iy.out.m _ (yd (l := M) (i := j) (by have := iy.out.len; omega));generalize pat M j = q at *;obtain ⟨qg, qs⟩ := q;dsimp only at hpt hmr;subst hpt;have Eo := zh hat;have Kb := zh hmr;clear hat hmr EK;dsimp only at Kb;have j3 : IntKind.i64.wrap (j : Int) = (j : Int) := aH _ (by omega);have i2 : (j : Int) < ((j + 1 : Nat) : Int) := by omega
 have k3 := gZ.out.c3;have g0 := Eo.out.n0;dsimp only at g0;go_wp2_with fail;refine (WL (num + 1) (by omega) w4).mono ?_;rintro e w5 ⟨rfl, hb⟩;clear k3 g0;replace gZ := zh (gZ.out.below hb);replace jF := zh (jF.out.below hb);replace fM := zh (zA fM.out hb);replace iy := zh (iy.out.keep hb);replace Eo := zh (Eo.out.below hb);replace Kb := zh (Kb.out.keep hb);have Oy := ak pF hb.size;have ai8 : g < w5.heap.size := cR Tj hb.size;clear hb;go_upto_region 8 with fail;change Code.wp _ _ _ _ (w5.alloc (.cells (zW (num + 1) 0 1 16 Sl.nil 0 0) 38));have eD := zQ w5 (num + 1) 0 1 16 Sl.nil 0 0 38;have HF := zh (eu.new w5 (num + 1) 0 1 16 Sl.nil 0 0 38);replace gZ := zh (gZ.out.below eD);replace jF := zh (jF.out.below eD);replace fM := zh (zA fM.out eD);replace iy := zh (iy.out.keep eD);replace Eo := zh (Eo.out.below eD);replace Kb := zh (Kb.out.keep eD);have JZ := ak Oy eD.size;clear eD
 generalize w5.alloc (.cells (zW (num + 1) 0 1 16 Sl.nil 0 0) 38) = w6 at *;generalize w5.heap.size = bF at *;have F8 := zh (YO ⟨num, rev, 1, sz, ⟨f, LV, GA⟩⟩ qs w6 Kb.out.rd MI.out);rw [HTg.out] at F8;dsimp only at F8;obtain ⟨g0, g1, g2, g3, g4, g5, g6, g7, g8, g9, g10, g11, g12, g13⟩ := Eo.out.q
 try dsimp only at g0 g1 g2 g3 g4 g5 g6 g7 g8 g9 g10 g11 g12 g13
 have MJ := zh (fun W' (hb : Below w6.heap.size w6 W') => (Eo.out.below hb).there (wO (zH iy.out.row hb)));go_wp2_with fail;refine F8.out.mono ?_;rintro e w7 ⟨⟨t, rfl, Cq⟩, hb⟩;dsimp only at Cq ⊢;replace gZ := zh (gZ.out.below hb);replace jF := zh (jF.out.below hb);replace fM := zh (zA fM.out hb);replace iy := zh (iy.out.keep hb);replace HF := zh (HF.out.below hb);have HT7 := zh (MJ.out w7 hb);have SB := ak JZ hb.size;have HTo := zh (Cq.mono JZ);clear Cq hb F8 MJ g0 g1 g2 g3 g4 g5 g6 g7 g8 g9 g10 g11 g12 g13
 go_upto_region 10 with (first | ((with_reducible refine wpList_store_mid ?_ 38 (.tmp 43) (.tmp 41) ?_ g (j * 14) (zW num rev 2 sz t LV GA) ?_ ?_ ?_ ?_ ?_ ?_); rfl; rfl; rfl; rfl; exact HT7.out; exact Se; exact kt _ _ _ _ _ _ _; rw [kV]; have mA := zh (iy.out.set j (by omega) ((⟨num, rev, 2, sz, ⟨f, LV, GA⟩⟩ : Gn), t) HTo.out); dsimp only at mA; have nZ := zh (gZ.out.ek (d := g) (by omega) (o7 (j * 14) num rev 2 sz t LV GA)); have F9 := zh (jF.out.ek (d := g) (by omega) (o7 (j * 14) num rev 2 sz t LV GA)); have Am := zh (HF.out.ek (c := g) (by omega) (o7 (j * 14) num rev 2 sz t LV GA)); have lX := zh (zD (B := w.heap.size) (b := g) (by omega) (o7 (j * 14) num rev 2 sz t LV GA) fM.out); have hB8 : w.heap.size + 2 ≤ (pts w7 g (o7 (j * 14) num rev 2 sz t LV GA)).heap.size := (by rw [wC]; exact SB); clear gZ jF fM iy HF HTo; generalize pts w7 g (o7 (j * 14) num rev 2 sz t LV GA) = w8 at *; have k3 := nZ.out.c3; have u0 := Am.out.n0; have u1 := Am.out.n1; have u2 := Am.out.n2; have u3 := Am.out.n3; have u4 := Am.out.c0; have u5 := Am.out.c1; have u6 := Am.out.c2; have u7 := Am.out.c3; have u8 := Am.out.c4; have u9 := Am.out.c5; have Yq := Am.out.c6; have Yr := Am.out.c7; have Yt := Am.out.cl; have Yu := Am.out.cg; obtain ⟨w9, O6⟩ : ∃ w9, w8.alloc (.cells (gP ((fresh (num + 1), Sl.nil) : GP)).toArray 38) = w9 := ⟨_, rfl⟩; have fP : Below w8.heap.size w8 w9 := O6 ▸ (aj _ _).alloc (ai _) _; have jP := zh (show Rd w9 14 (.slice (some ⟨w8.heap.size, 0, none⟩) 1 1) 1 (gP ((fresh (num + 1), Sl.nil) : GP)) from O6 ▸ Rd.np w8.heap.size w8 rfl 14 (gP ((fresh (num + 1), Sl.nil) : GP)) 38 1 rfl (by decide)); have i_ := zh (mA.out.keep fP); have Fk := ak hB8 fP.size; have HH9 := zh O6; clear O6) | (at_builtin; go_must (change wpList _ _ _ _ _ (w8.alloc (.cells (gP ((fresh (num + 1), Sl.nil) : GP)).toArray 38)); rw [HH9.out]; refine zd rfl (.tmp 45) (.tmp 47) 25 rfl Sf (w.heap.size + 2) rfl i_.out.row rfl jP.out (k7 _) (by unfold maxLen; omega) (by omega) Fk ?_; intro v10 IW DF pX Tk; clear Tk; obtain ⟨ra, rc, rfl, _⟩ := zO DF; replace pX : w9.grownBy IW (some g) := pX; have AJ := zh ((nZ.out.below fP).mZ pX (by omega)); have MK := zh ((F9.out.below fP).mZ pX (by omega)); have EL := zh ((zA lX.out fP).trans ((zM (aj (w.heap.size + 2) w9) i_.out.row Fk pX).mono (by omega))); have EM := zh DF; have ML := zh (fun p hp => (i_.out.m p hp).DE i_.out.row pX); have k3 := AJ.out.c3; have kf := AJ.out.f)))
 clear k3 kf u0 u1 u2 u3 u4 u5 u6 u7 u8 u9 Yq Yr Yt Yu;have Tl := zh (show eQ (pts IW w.heap.size [(3, .slice ra (j + 1 + 1) rc)]) w.heap.size i l r ra (j + 1 + 1) rc from AJ.out.Cd ra (j + 1 + 1) rc);have IX := zh (MK.out.ek (d := w.heap.size) (by omega) [(3, .slice ra (j + 1 + 1) rc)]);have Tm := zh (zD (B := w.heap.size) (b := w.heap.size) (ai _) [(3, .slice ra (j + 1 + 1) rc)] EL.out);have Tn := zh (xw (b := w.heap.size) (by omega) EM.out [(3, .slice ra (j + 1 + 1) rc)]);have Tp := zh (fun p hp => (ML.out p hp).pts (b := w.heap.size) (by omega) [(3, .slice ra (j + 1 + 1) rc)]);clear AJ MK EL EM ML;change Code.wp _ _ _ _ (pts IW w.heap.size [(3, .slice ra (j + 1 + 1) rc)]);generalize pts IW w.heap.size [(3, .slice ra (j + 1 + 1) rc)] = Tq at *;have hlM : M.length = j + 1 := (zj M).symm.trans ((aT List.length jW.out).trans Ti.out);obtain ⟨k0, k1, k2, k3⟩ := Tl.out.q
 obtain ⟨z0, z1, z2, z3⟩ := IX.out.q;have zf := IX.out.f;go_wp2_with fail;change bodyPost _ _ _ _ _ (pts Tq (w.heap.size + 1) (zJ i l r ra (j + 1 + 1) rc))
 have Ii := zh (show fl (pts Tq (w.heap.size + 1) (zJ i l r ra (j + 1 + 1) rc)) (.slice ra (j + 1 + 1) rc) (M.set j ((⟨num, rev, 2, sz, ⟨f, LV, GA⟩⟩ : Gn), t) ++ [(fresh (num + 1), Sl.nil)]) from uz (B := w.heap.size + 2) (T := 38) (by
  rw [cm, show [((fresh (num + 1), Sl.nil) : GP)].flatMap gP = gP ((fresh (num + 1), Sl.nil) : GP) from bY _]
  exact xw (b := w.heap.size + 1) (by omega) Tn.out _) (by rw [aA, bd, hlM]; rfl) (fun p hp => by
  rcases List.mem_append.1 hp with hp | hp
  ·
   exact ((Tp.out p hp).pts (b := w.heap.size + 1) (by omega) _).rd
  rw [List.mem_singleton.1 hp]; exact kA _))
 have HGf := zh (show dV (M.set j ((⟨num, rev, 2, sz, ⟨f, LV, GA⟩⟩ : Gn), t) ++ [(fresh (num + 1), Sl.nil)]) = (dV L).take j ++ [⟨num, rev, 2, sz, ⟨f, LV, GA⟩⟩, fresh (num + 1)] from by
  rw [Yf, Sm, jW.out, dO, ag (by rw [Ti.out]; omega), bT (by rw [Ti.out]; omega)]
  simp [dV])
 have hby := IX.out.all i l r ra (j + 1 + 1) rc;have ea := zh (zD (B := w.heap.size) (b := (w.heap.size + 1)) (by omega) (zJ i l r ra (j + 1 + 1) rc) Tm.out);generalize pts Tq (w.heap.size + 1) (zJ i l r ra (j + 1 + 1) rc) = V at *;exact aw (v := .tuple #[zZ i l r ra (j + 1 + 1) rc, .int .i64 0]) (by simp [results, Tryz.results15, go_sem, hby.c0, hby.c1, hby.c2, hby.c3]) rfl (by rw [HC.out]; exact ⟨⟨ra, j + 1 + 1, rc, M.set j ((⟨num, rev, 2, sz, ⟨f, LV, GA⟩⟩ : Gn), t) ++ [(fresh (num + 1), Sl.nil)], rfl, Ii.out, HGf.out⟩, ea.out⟩)
theorem zJa (i l : Int) (r : Bool) (a : Option Addr) (n c : Nat) (L : List GP) (w : World) (h : fl w (.slice a n c) L) (hs : ∀ p ∈ L, ∀ j, j < 8 → (p.1.m.st j).length ≤ 10000) : Calls Tryz.prog 15 #[zZ i l r a n c] w (ig w (xO ⟨i, l, r, dV L⟩)) := by
 cases hv : zg ⟨i, l, r, dV L⟩
 ·
  exact zKu i l r a n c L w h hs hv
 by_cases mX : (zS ⟨i, l, r, dV L⟩).num < 8
 ·
  exact zJb i l r a n c L w h hs hv mX
 exact zHl i l r a n c L w h hs hv mX
/-! ### Plain -/
noncomputable def zi : List Kl → eE → eE × Int
  | [], s => (s, 0)
  | k :: r, s => if (yX s k.1 k.2).2 = 0 then zi r (yX s k.1 k.2).1 else (xP, (yX s k.1 k.2).2)
theorem qu : ∀ (l m : List Kl) (s : eE), (zi l s).2 = 0 → zi (l ++ m) s = zi m (zi l s).1
  | [], _, _, _ => rfl
  | k :: r, m, s, h => by
    unfold zi at h
    show (if (yX s k.1 k.2).2 = 0 then zi (r ++ m) (yX s k.1 k.2).1 else _) = zi m (if (yX s k.1 k.2).2 = 0 then zi r (yX s k.1 k.2).1 else _).1
    by_cases e : (yX s k.1 k.2).2 = 0
    · rw [ag e] at h
      rw [ag e, ag e];exact qu r m _ h
    rw [ah e] at h;exact absurd h e
theorem zEO {l : List Kl} {k : Nat} (hk : k < l.length) {s : eE} (h : (zi (l.take k) s).2 = 0) (h2 : (yX (zi (l.take k) s).1 (yH l k).1 (yH l k).2).2 = 0) : zi (l.take (k + 1)) s = ((yX (zi (l.take k) s).1 (yH l k).1 (yH l k).2).1, 0) := by
  have e : l.take (k + 1) = l.take k ++ [yH l k] := by rw [cU, zKz hk]; rfl
  rw [e, qu _ _ _ h]
  show (if _ = 0 then zi [] _ else _) = _
  rw [ag h2]; rfl
theorem zFr {l : List Kl} {k : Nat} (hk : k < l.length) {s : eE} (h : (zi (l.take k) s).2 = 0) (h2 : (yX (zi (l.take k) s).1 (yH l k).1 (yH l k).2).2 ≠ 0) : zi l s = (xP, (yX (zi (l.take k) s).1 (yH l k).1 (yH l k).2).2) := by
  have e : l = l.take k ++ yH l k :: l.drop (k + 1) := by
    rw [← yx hk, ← cQ hk, bM]
  have h3 : zi l s = zi (yH l k :: l.drop (k + 1)) (zi (l.take k) s).1 := by
    conv => lhs; rw [e]
    exact qu _ _ _ h
  rw [h3]
  show (if _ = 0 then _ else _) = _
  rw [ah h2]
noncomputable def wg (s : eE) (ep : Bool) (ks : List Kl) (l : List Nd) : eE × Int :=
  if zg s = true then
    (if ep = true then xO s
     else if (zi ks s).2 = 0 then
       (if (yt (zS s) l).1 = 0 then yb (zi ks s).1 (yt (zS s) l).2 else (xP, (yt (zS s) l).1))
     else (xP, (zi ks s).2))
  else (xP, 1)
theorem zBg {K : Nat} : ∀ (l : List Kl) (s : eE), eV K s.dP → eV K (zi l s).1.dP
  | [], _, h => h
  | k :: r, s, h => by
    unfold zi
    split
    · exact zBg r _ (uu h)
    exact fun g hg => by cases hg
theorem zCm : ∀ (l : List Kl) (s : eE), (zi l s).1.dP.length ≤ s.dP.length
  | [], _ => ai _
  | k :: r, s => by
    unfold zi
    split
    · exact ak (zCm r _) (SU _ _ _)
    exact au _
/-! ### Dx in memory, as they are read -/
structure rR (w : World) (v : Value) (ks : List KP) : Prop where
  row : iu 2 jQ w v ks
  keys : ∀ p ∈ ks, lU w p.2.1 p.2.2
theorem rR.below {w w' : World} {v : Value} {ks : List KP} (h : rR w v ks) (hb : Below w.heap.size w w') : rR w' v ks := ⟨iu.below h.row hb, fun p hp => ik.below (h.keys p hp) hb⟩
theorem zEk {l : List KP} {i : Nat} (h : i < l.length) : jh l i ∈ l := by
  unfold jh;rw [ax, aB h]; exact bJ h
theorem rR.shape {w : World} {v : Value} {ks : List KP} (h : rR w v ks) : ∃ a cap, v = .slice a ks.length cap ∧ ks.length ≤ cap ∧ cap ≤ maxLen := by
  obtain ⟨a, cap, h1, h2, h3, _⟩ := iu.shape h.row (by decide) (0, .slice none 0 0, []);exact ⟨a, cap, h1, h2, h3⟩
theorem rR.at {w : World} {a : Option Addr} {n cap : Nat} {ks : List KP} (h : rR w (.slice a n cap) ks) {j : Nat} (hj : j < n) : ∃ b off, a = some ⟨b, off, none⟩ ∧ lU w (jh ks j).2.1 (jh ks j).2.2 ∧
    w.cell? ⟨b, off + j * 2, none⟩ = some (.int .i64 (jh ks j).1) ∧ w.cell? ⟨b, off + j * 2 + 1, none⟩ = some (jh ks j).2.1 := by
  obtain ⟨a', cap', e, h2, h3, _, h5⟩ := iu.shape h.row (by decide) (0, .slice none 0 0, []);injection e with e1 e2 e3;subst e1 e2 e3;obtain ⟨b, off, e, hc⟩ := h5 (by omega);refine ⟨b, off, e, h.keys _ (zEk hj), ?_, hc j hj 1 _ rfl⟩;have := hc j hj 0 _ rfl; rwa [bp] at this
theorem zIO (ks : List KP) (i : Nat) : yH (gT ks) i = ((jh ks i).1, (jh ks i).2.2) := by
  unfold yH gT jh;rw [ax, ax, b8]
  cases ks[i]? <;> rfl
end Go.Proofs.YtcgfilmmokmdjaaGreat
