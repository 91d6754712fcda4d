/- A part of the walk. -/
import Derived.Test.YtcgfilmmokmdjaaGreatQAU
import Derived.Test.YtcgfilmmokmdjaaGreatQAL
import Derived.Test.YtcgfilmmokmdjaaGreatQAN
set_option linter.all false
set_option maxRecDepth 100000
set_option maxHeartbeats 32000000
namespace Go.Proofs.YtcgfilmmokmdjaaGreat
open Go.RowKit
theorem eU.Dv {W W' : World} {B B' g n c : Nat} {xs : List Value} {s : Sl} {f : Nat → List It} (ho : eU W B' s f) (h : W.ownsRow B 38 14 (.slice (some ⟨g, 0, none⟩) n c) n xs) (hg : W.grownBy W' (some g)) : eU W' B' s f := fun i hi =>
 (ho i hi).kept hg (by
  have h1 := Yj h ho i hi
  cases hv : (s.v i).ownBlock with
  | none => exact .inl rfl
  | some b => exact .inr fun e => h1 (by rw [hv]; exact e))
theorem zKu (i l : Int) (r : Bool) (a : Option Addr) (n c : Nat) (L : List GP) (w : World) (h : fq w (.slice a n c) L) (hs : ∀ p ∈ L, ∀ j, j < 8 → (p.1.m.st j).length ≤ 10000) (hv : zg ⟨i, l, r, dZ L⟩ = false) :
  Calls Tryz.prog 15 #[zZ i l r a n c] w (iu w (xO ⟨i, l, r, dZ L⟩)) := by
 have gu := zh (fun W (hb : Below w.heap.size w W) => yQ i l r a n c L W (h.below hb) hs);have HC := zh (show xO ⟨i, l, r, dZ L⟩ = (xP, 1) by unfold xO; rw [hv]; rfl);rw [hv] at gu;clear h hs hv
 go_enter Tryz.func15, Tryz.ntmps15
 go_upto_region 1 with fail;change Code.wp _ _ _ _ ((w.alloc (.cells (zK i l r a n c) 27)).alloc (.cells (zK 0 0 false none 0 0) 27));obtain ⟨W, hW, fc, hbr, fB⟩ := ua w i l r a n c 27;rw [hW];have HX := zh fc;have HR := zh hbr;have HB := zh fB;clear hW fc hbr fB;obtain ⟨k0, k1, k2, k3⟩ := HX.out.q;go_wp2_with fail;refine (gu.out _ HB.out).mono ?_;rintro e w1 ⟨rfl, hb⟩;replace HX := zh (HX.out.below hb);replace HR := zh (HR.out.below hb);replace HB := zh (zA HB.out hb);clear hb;clear k0 k1 k2 k3;obtain ⟨z0, z1, z2, z3⟩ := HR.out.q;have zf := HR.out.f;go_wp2_with fail;change bodyPost _ _ _ _ _ (pts w1 (w.heap.size + 1) (zJ 0 0 false none 0 0));have hby := HR.out.all 0 0 false none 0 0;have ek := zh (zD (B := w.heap.size) (b := (w.heap.size + 1)) (by omega) (zJ 0 0 false none 0 0) HB.out);generalize pts w1 (w.heap.size + 1) (zJ 0 0 false none 0 0) = V at *
 exact aw (v := .tuple #[zZ 0 0 false none 0 0, .int .i64 1]) (by simp [results, Tryz.results15, go_sem, hby.c0, hby.c1, hby.c2, hby.c3]) rfl (by rw [HC.out]; exact iu.no ek.out)
theorem zHl (i l : Int) (r : Bool) (a : Option Addr) (n c : Nat) (L : List GP) (w : World) (h : fq w (.slice a n c) L) (hs : ∀ p ∈ L, ∀ j, j < 8 → (p.1.m.st j).length ≤ 10000) (hv : zg ⟨i, l, r, dZ L⟩ = true) (mZ : ¬ (zS ⟨i, l, r, dZ L⟩).num < 8) :
  Calls Tryz.prog 15 #[zZ i l r a n c] w (iu w (xO ⟨i, l, r, dZ L⟩)) := by
 have gu := zh (fun W (hb : Below w.heap.size w W) => yQ i l r a n c L W (h.below hb) hs);have Cc := zh (fun W (hb : Below w.heap.size w W) => qY i l r a n c L W (h.below hb) hs);have HC := zh (show xO ⟨i, l, r, dZ L⟩ = (xP, 9) by unfold xO; rw [ag hv, ah mZ]);rw [hv] at gu;rw [show xe ⟨i, l, r, dZ L⟩ = false by unfold xe; rw [hv]; simpa using mZ] at Cc;clear h hs hv mZ
 go_enter Tryz.func15, Tryz.ntmps15
 go_upto_region 1 with fail;change Code.wp _ _ _ _ ((w.alloc (.cells (zK i l r a n c) 27)).alloc (.cells (zK 0 0 false none 0 0) 27));obtain ⟨W, hW, fc, hbr, fB⟩ := ua w i l r a n c 27;rw [hW];have HX := zh fc;have HR := zh hbr;have HB := zh fB;clear hW fc hbr fB;obtain ⟨k0, k1, k2, k3⟩ := HX.out.q;go_wp2_with fail;refine (gu.out _ HB.out).mono ?_;rintro e w1 ⟨rfl, hb⟩;replace HX := zh (HX.out.below hb);replace HR := zh (HR.out.below hb);replace HB := zh (zA HB.out hb);clear hb;clear k0 k1 k2 k3;obtain ⟨k0, k1, k2, k3⟩ := HX.out.q;go_wp2_with fail;refine (Cc.out _ HB.out).mono ?_;rintro e w2 ⟨rfl, hb⟩;replace HX := zh (HX.out.below hb);replace HR := zh (HR.out.below hb);replace HB := zh (zA HB.out hb);clear hb;clear k0 k1 k2 k3;obtain ⟨z0, z1, z2, z3⟩ := HR.out.q;have zf := HR.out.f;go_wp2_with fail;change bodyPost _ _ _ _ _ (pts w2 (w.heap.size + 1) (zJ 0 0 false none 0 0))
 have hby := HR.out.all 0 0 false none 0 0;have ek := zh (zD (B := w.heap.size) (b := (w.heap.size + 1)) (by omega) (zJ 0 0 false none 0 0) HB.out);generalize pts w2 (w.heap.size + 1) (zJ 0 0 false none 0 0) = V at *;exact aw (v := .tuple #[zZ 0 0 false none 0 0, .int .i64 9]) (by simp [results, Tryz.results15, go_sem, hby.c0, hby.c1, hby.c2, hby.c3]) rfl (by rw [HC.out]; exact iu.no ek.out)
theorem zJb (i l : Int) (r : Bool) (a : Option Addr) (n c : Nat) (L : List GP) (w : World) (h : fq w (.slice a n c) L) (hs : ∀ p ∈ L, ∀ j, j < 8 → (p.1.m.st j).length ≤ 10000) (hv : zg ⟨i, l, r, dZ L⟩ = true) (mZ : (zS ⟨i, l, r, dZ L⟩).num < 8) :
  Calls Tryz.prog 15 #[zZ i l r a n c] w (iu w (xO ⟨i, l, r, dZ L⟩)) := by
 have gu := zh (fun W (hb : Below w.heap.size w W) => yQ i l r a n c L W (h.below hb) hs);have Cc := zh (fun W (hb : Below w.heap.size w W) => qY i l r a n c L W (h.below hb) hs);have hV := (zR _).1 hv;obtain ⟨EZ, Ia, _⟩ := hV.sR;have fR : L.length = n := by
  obtain ⟨_, _, e, _⟩ := h.shape;injection e with _ e _; exact e.symm
 have hl : (dZ L).length = n := by rw [zj, fR]
 have hn : 1 ≤ n ∧ n ≤ 8 := by have := hV.len; simp only [hl] at this; exact this
 obtain ⟨j, rfl⟩ : ∃ j, n = j + 1 := ⟨n - 1, by omega⟩
 have hC : xO ⟨i, l, r, dZ L⟩ = (⟨i, l, r, (dZ L).take j ++ [{ zS ⟨i, l, r, dZ L⟩ with mode := 2 }, fresh ((zS ⟨i, l, r, dZ L⟩).num + 1)]⟩, 0) := by
  unfold xO; rw [ag hv, ag mZ]
  show ((⟨i, l, r, (dZ L).take ((dZ L).length - 1) ++ _⟩ : eL), (0 : Int)) = _
  rw [hl]; rfl
 rw [hv] at gu;rw [show xe ⟨i, l, r, dZ L⟩ = true by unfold xe; rw [hv]; simpa using mZ] at Cc;have jt := EZ.num;have ZH := hs _ (yd (l := L) (i := j) (by omega));rw [vP fR] at hC EZ Ia mZ jt;have HTg := zh (show xK (pat L j).1 1 = (0, { (pat L j).1 with mode := 1 + 1 }) from by unfold xK; rw [ag ((yD _).2 EZ), ag Ia]);have HC := zh hC;have ni := zh h;have JD := zh hs;have S3 := zh (show (dZ L).length = j + 1 from hl);have EE := zh (fun M (e : dZ M = dZ L) => show (pat M j).1 = (pat L j).1 by rw [← yu, ← yu, e]);clear hV fR hl hv hs hC EZ h;generalize (pat L j).1 = tg at *;obtain ⟨num, rev, md, sz, ⟨f, LV, GA⟩⟩ := tg;dsimp only at *;subst Ia;have Mn := zh ZH;clear ZH
 go_enter Tryz.func15, Tryz.ntmps15
 go_upto_region 1 with fail;change Code.wp _ _ _ _ ((w.alloc (.cells (zK i l r a (j + 1) c) 27)).alloc (.cells (zK 0 0 false none 0 0) 27));obtain ⟨W, hW, fc, hbr, fB⟩ := ua w i l r a (j + 1) c 27;rw [hW];have HX := zh fc;have HR := zh hbr;have HB := zh fB;clear hW fc hbr fB;have hB0 : w.heap.size + 2 ≤ W.heap.size := by have := HR.out.lt; omega
 obtain ⟨k0, k1, k2, k3⟩ := HX.out.q;go_wp2_with fail;refine (gu.out _ HB.out).mono ?_;rintro e w1 ⟨rfl, hb⟩;replace HX := zh (HX.out.below hb);replace HR := zh (HR.out.below hb);replace HB := zh (zA HB.out hb);have hB1 := ak hB0 hb.size;clear hb gu;clear k0 k1 k2 k3;obtain ⟨k0, k1, k2, k3⟩ := HX.out.q;go_wp2_with fail;refine (Cc.out _ HB.out).mono ?_;rintro e w2 ⟨rfl, hb⟩;replace HX := zh (HX.out.below hb);replace HR := zh (HR.out.below hb);replace HB := zh (zA HB.out hb);have hB2 := ak hB1 hb.size;clear hb Cc;clear k0 k1 k2 k3;obtain ⟨k0, k1, k2, k3⟩ := HX.out.q;go_wp2_with fail;refine (Yl i l r a (j + 1) c L w2 (ni.out.below HB.out) JD.out (by omega)).mono ?_;rintro e w3 hq;obtain ⟨⟨a1, c1, M, rfl, ho, hg⟩, hb⟩ := hq;have pd := zh (ho.lower hB2);have jW := zh hg;clear k0 k1 k2 k3 ho hg;replace HX := zh (HX.out.below hb);replace HR := zh (HR.out.below hb)
 replace HB := zh (zA HB.out hb);have FN := ak hB2 hb.size;clear hb;obtain ⟨k0, k1, k2, k3⟩ := HX.out.q;have kf := HX.out.f;go_upto_region 6 with fail;clear k0 k1 k2 k3 kf;obtain ⟨g, rfl, hgB, nH⟩ := uJ pd.out.row (by omega);have ia := zh (HX.out.all i l r (some ⟨g, 0, none⟩) (j + 1) c1);have jF := zh (HR.out.eu (d := w.heap.size) (by omega) (zJ i l r (some ⟨g, 0, none⟩) (j + 1) c1));have fQ := zh (zD (B := w.heap.size) (b := w.heap.size) (ai _) (zJ i l r (some ⟨g, 0, none⟩) (j + 1) c1) HB.out);have iB := zh (pd.out.pts (b := w.heap.size) (by omega) (zJ i l r (some ⟨g, 0, none⟩) (j + 1) c1));have pM : w.heap.size + 2 ≤ (pts w3 w.heap.size (zJ i l r (some ⟨g, 0, none⟩) (j + 1) c1)).heap.size := by rw [wC]; exact FN
 have S4 : g < (pts w3 w.heap.size (zJ i l r (some ⟨g, 0, none⟩) (j + 1) c1)).heap.size := by rw [wC]; exact nH
 clear HX HR HB pd nH;change Code.wp _ _ _ _ (pts w3 w.heap.size (zJ i l r (some ⟨g, 0, none⟩) (j + 1) c1));generalize pts w3 w.heap.size (zJ i l r (some ⟨g, 0, none⟩) (j + 1) c1) = w4 at *;have hat := N8 iB.out.row iB.out.len (show j < j + 1 by omega);have hpt := EE.out M jW.out;have hmr := iB.out.m _ (yd (l := M) (i := j) (by have := iB.out.len; omega));generalize pat M j = q at *;obtain ⟨qg, qs⟩ := q;dsimp only at hpt hmr;subst hpt;have Ej := zh hat;have JS := zh hmr;clear hat hmr EE;dsimp only at JS;have j3 : IntKind.i64.wrap (j : Int) = (j : Int) := aH _ (by omega);have i2 : (j : Int) < ((j + 1 : Nat) : Int) := by omega
 have k3 := ia.out.c3;have g0 := Ej.out.n0;dsimp only at g0;go_wp2_with fail;refine (Wu (num + 1) (by omega) w4).mono ?_;rintro e w5 ⟨rfl, hb⟩;clear k3 g0;replace ia := zh (ia.out.below hb);replace jF := zh (jF.out.below hb);replace fQ := zh (zA fQ.out hb);replace iB := zh (iB.out.keep hb);replace Ej := zh (Ej.out.below hb);replace JS := zh (JS.out.keep hb);have N9 := ak pM hb.size;have aiB : g < w5.heap.size := cS S4 hb.size;clear hb;go_upto_region 8 with fail;change Code.wp _ _ _ _ (w5.alloc (.cells (zW (num + 1) 0 1 16 Sl.nil 0 0) 38));have eH := zQ w5 (num + 1) 0 1 16 Sl.nil 0 0 38;have HF := zh (eA.new w5 (num + 1) 0 1 16 Sl.nil 0 0 38);replace ia := zh (ia.out.below eH);replace jF := zh (jF.out.below eH);replace fQ := zh (zA fQ.out eH);replace iB := zh (iB.out.keep eH);replace Ej := zh (Ej.out.below eH);replace JS := zh (JS.out.keep eH);have JG := ak N9 eH.size;clear eH
 generalize w5.alloc (.cells (zW (num + 1) 0 1 16 Sl.nil 0 0) 38) = w6 at *;generalize w5.heap.size = bF at *;have F2 := zh (zBa ⟨num, rev, 1, sz, ⟨f, LV, GA⟩⟩ qs w6 JS.out.rd Mn.out);rw [HTg.out] at F2;dsimp only at F2;obtain ⟨g0, g1, g2, g3, g4, g5, g6, g7, g8, g9, g10, g11, g12, g13⟩ := Ej.out.q
 try dsimp only at g0 g1 g2 g3 g4 g5 g6 g7 g8 g9 g10 g11 g12 g13
 have Mq := zh (fun W' (hb : Below w6.heap.size w6 W') => (Ej.out.below hb).there (wO (zH iB.out.row hb)));go_wp2_with fail;refine F2.out.mono ?_;rintro e w7 ⟨⟨t, rfl, Cn⟩, hb⟩;dsimp only at Cn ⊢;replace ia := zh (ia.out.below hb);replace jF := zh (jF.out.below hb);replace fQ := zh (zA fQ.out hb);replace iB := zh (iB.out.keep hb);replace HF := zh (HF.out.below hb);have HT7 := zh (Mq.out w7 hb);have Sd := ak JG hb.size;have ZI := zh (Cn.mono JG);clear Cn hb F2 Mq g0 g1 g2 g3 g4 g5 g6 g7 g8 g9 g10 g11 g12 g13
 go_upto_region 10 with (first | ((with_reducible refine wpList_store_mid ?_ 38 (.tmp 43) (.tmp 41) ?_ g (j * 14) (zW num rev 2 sz t LV GA) ?_ ?_ ?_ ?_ ?_ ?_); rfl; rfl; rfl; rfl; exact HT7.out; exact RN; exact kt _ _ _ _ _ _ _; rw [kV]; have mD := zh (iB.out.set j (by omega) ((⟨num, rev, 2, sz, ⟨f, LV, GA⟩⟩ : Gn), t) ZI.out); dsimp only at mD; have n_ := zh (ia.out.eu (d := g) (by omega) (o_ (j * 14) num rev 2 sz t LV GA)); have F3 := zh (jF.out.eu (d := g) (by omega) (o_ (j * 14) num rev 2 sz t LV GA)); have Ak := zh (HF.out.eu (c := g) (by omega) (o_ (j * 14) num rev 2 sz t LV GA)); have lZ := zh (zD (B := w.heap.size) (b := g) (by omega) (o_ (j * 14) num rev 2 sz t LV GA) fQ.out); have hB8 : w.heap.size + 2 ≤ (pts w7 g (o_ (j * 14) num rev 2 sz t LV GA)).heap.size := (by rw [wC]; exact Sd); clear ia jF fQ iB HF ZI; generalize pts w7 g (o_ (j * 14) num rev 2 sz t LV GA) = w8 at *; have k3 := n_.out.c3; have u0 := Ak.out.n0; have u1 := Ak.out.n1; have u2 := Ak.out.n2; have u3 := Ak.out.n3; have u4 := Ak.out.c0; have u5 := Ak.out.c1; have u6 := Ak.out.c2; have u7 := Ak.out.c3; have u8 := Ak.out.c4; have u9 := Ak.out.c5; have u10 := Ak.out.c6; have u11 := Ak.out.c7; have u12 := Ak.out.cl; have u13 := Ak.out.cg; obtain ⟨w9, OI⟩ : ∃ w9, w8.alloc (.cells (gU ((fresh (num + 1), Sl.nil) : GP)).toArray 38) = w9 := ⟨_, rfl⟩; have fT : Below w8.heap.size w8 w9 := OI ▸ (aj _ _).alloc (ai _) _; have jP := zh (show Rd w9 14 (.slice (some ⟨w8.heap.size, 0, none⟩) 1 1) 1 (gU ((fresh (num + 1), Sl.nil) : GP)) from OI ▸ Rd.nu w8.heap.size w8 rfl 14 (gU ((fresh (num + 1), Sl.nil) : GP)) 38 1 rfl (by decide)); have i_ := zh (mD.out.keep fT); have Fc := ak hB8 fT.size; have HH9 := zh OI; clear OI) | (at_builtin; go_must (change wpList _ _ _ _ _ (w8.alloc (.cells (gU ((fresh (num + 1), Sl.nil) : GP)).toArray 38)); rw [HH9.out]; refine zd rfl (.tmp 45) (.tmp 47) 25 rfl RO (w.heap.size + 2) rfl i_.out.row rfl jP.out (k7 _) (by unfold maxLen; omega) (by omega) Fc ?_; intro v10 IA Dw q_ S5; clear S5; obtain ⟨ra, rc, rfl, _⟩ := zO Dw; replace q_ : w9.grownBy IA (some g) := q_; have AI := zh ((n_.out.below fT).nh q_ (by omega)); have Mr := zh ((F3.out.below fT).nh q_ (by omega)); have EF := zh ((zA lZ.out fT).trans ((zM (aj (w.heap.size + 2) w9) i_.out.row Fc q_).mono (by omega))); have EG := zh Dw; have Ms := zh (fun p hp => (i_.out.m p hp).Dv i_.out.row q_); have k3 := AI.out.c3; have kf := AI.out.f)))
 clear k3 kf u0 u1 u2 u3 u4 u5 u6 u7 u8 u9 u10 u11 u12 u13;have S6 := zh (show eT (pts IA w.heap.size [(3, .slice ra (j + 1 + 1) rc)]) w.heap.size i l r ra (j + 1 + 1) rc from AI.out.Cb ra (j + 1 + 1) rc);have IB := zh (Mr.out.eu (d := w.heap.size) (by omega) [(3, .slice ra (j + 1 + 1) rc)]);have S7 := zh (zD (B := w.heap.size) (b := w.heap.size) (ai _) [(3, .slice ra (j + 1 + 1) rc)] EF.out);have S8 := zh (xw (b := w.heap.size) (by omega) EG.out [(3, .slice ra (j + 1 + 1) rc)]);have S9 := zh (fun p hp => (Ms.out p hp).pts (b := w.heap.size) (by omega) [(3, .slice ra (j + 1 + 1) rc)]);clear AI Mr EF EG Ms;change Code.wp _ _ _ _ (pts IA w.heap.size [(3, .slice ra (j + 1 + 1) rc)]);generalize pts IA w.heap.size [(3, .slice ra (j + 1 + 1) rc)] = S_ at *;have hlM : M.length = j + 1 := (zj M).symm.trans ((aS List.length jW.out).trans S3.out);obtain ⟨k0, k1, k2, k3⟩ := S6.out.q
 obtain ⟨z0, z1, z2, z3⟩ := IB.out.q;have zf := IB.out.f;go_wp2_with fail;change bodyPost _ _ _ _ _ (pts S_ (w.heap.size + 1) (zJ i l r ra (j + 1 + 1) rc))
 have H5 := zh (show fq (pts S_ (w.heap.size + 1) (zJ i l r ra (j + 1 + 1) rc)) (.slice ra (j + 1 + 1) rc) (M.set j ((⟨num, rev, 2, sz, ⟨f, LV, GA⟩⟩ : Gn), t) ++ [(fresh (num + 1), Sl.nil)]) from uz (B := w.heap.size + 2) (T := 38) (by
  rw [b_, show [((fresh (num + 1), Sl.nil) : GP)].flatMap gU = gU ((fresh (num + 1), Sl.nil) : GP) from bW _]
  exact xw (b := w.heap.size + 1) (by omega) S8.out _) (by rw [aA, aZ, hlM]; rfl) (fun p hp => by
  rcases List.mem_append.1 hp with hp | hp
  ·
   exact ((S9.out p hp).pts (b := w.heap.size + 1) (by omega) _).rd
  rw [List.mem_singleton.1 hp]; exact kA _))
 have HGf := zh (show dZ (M.set j ((⟨num, rev, 2, sz, ⟨f, LV, GA⟩⟩ : Gn), t) ++ [(fresh (num + 1), Sl.nil)]) = (dZ L).take j ++ [⟨num, rev, 2, sz, ⟨f, LV, GA⟩⟩, fresh (num + 1)] from by
  rw [XZ, RX, jW.out, dS, ag (by rw [S3.out]; omega), bQ (by rw [S3.out]; omega)]
  simp [dZ])
 have hby := IB.out.all i l r ra (j + 1 + 1) rc;have ek := zh (zD (B := w.heap.size) (b := (w.heap.size + 1)) (by omega) (zJ i l r ra (j + 1 + 1) rc) S7.out);generalize pts S_ (w.heap.size + 1) (zJ i l r ra (j + 1 + 1) rc) = V at *;exact aw (v := .tuple #[zZ i l r ra (j + 1 + 1) rc, .int .i64 0]) (by simp [results, Tryz.results15, go_sem, hby.c0, hby.c1, hby.c2, hby.c3]) rfl (by rw [HC.out]; exact ⟨⟨ra, j + 1 + 1, rc, M.set j ((⟨num, rev, 2, sz, ⟨f, LV, GA⟩⟩ : Gn), t) ++ [(fresh (num + 1), Sl.nil)], rfl, H5.out, HGf.out⟩, ek.out⟩)
theorem zJa (i l : Int) (r : Bool) (a : Option Addr) (n c : Nat) (L : List GP) (w : World) (h : fq w (.slice a n c) L) (hs : ∀ p ∈ L, ∀ j, j < 8 → (p.1.m.st j).length ≤ 10000) : Calls Tryz.prog 15 #[zZ i l r a n c] w (iu w (xO ⟨i, l, r, dZ L⟩)) := by
 cases hv : zg ⟨i, l, r, dZ L⟩
 ·
  exact zKu i l r a n c L w h hs hv
 by_cases mZ : (zS ⟨i, l, r, dZ L⟩).num < 8
 ·
  exact zJb i l r a n c L w h hs hv mZ
 exact zHl i l r a n c L w h hs hv mZ
/-! ### Plain -/
noncomputable def zi : List Kl → eL → eL × Int
  | [], s => (s, 0)
  | k :: r, s => if (yX s k.1 k.2).2 = 0 then zi r (yX s k.1 k.2).1 else (xP, (yX s k.1 k.2).2)
theorem qu : ∀ (l m : List Kl) (s : eL), (zi l s).2 = 0 → zi (l ++ m) s = zi m (zi l s).1
  | [], _, _, _ => rfl
  | k :: r, m, s, h => by
    unfold zi at h
    show (if (yX s k.1 k.2).2 = 0 then zi (r ++ m) (yX s k.1 k.2).1 else _) = zi m (if (yX s k.1 k.2).2 = 0 then zi r (yX s k.1 k.2).1 else _).1
    by_cases e : (yX s k.1 k.2).2 = 0
    · rw [ag e] at h
      rw [ag e, ag e];exact qu r m _ h
    rw [ah e] at h;exact absurd h e
theorem zEO {l : List Kl} {k : Nat} (hk : k < l.length) {s : eL} (h : (zi (l.take k) s).2 = 0) (h2 : (yX (zi (l.take k) s).1 (yH l k).1 (yH l k).2).2 = 0) : zi (l.take (k + 1)) s = ((yX (zi (l.take k) s).1 (yH l k).1 (yH l k).2).1, 0) := by
  have e : l.take (k + 1) = l.take k ++ [yH l k] := by rw [cV, zKz hk]; rfl
  rw [e, qu _ _ _ h]
  show (if _ = 0 then zi [] _ else _) = _
  rw [ag h2]; rfl
theorem zFr {l : List Kl} {k : Nat} (hk : k < l.length) {s : eL} (h : (zi (l.take k) s).2 = 0) (h2 : (yX (zi (l.take k) s).1 (yH l k).1 (yH l k).2).2 ≠ 0) : zi l s = (xP, (yX (zi (l.take k) s).1 (yH l k).1 (yH l k).2).2) := by
  have e : l = l.take k ++ yH l k :: l.drop (k + 1) := by
    rw [← yx hk, ← cR hk, bJ]
  have h3 : zi l s = zi (yH l k :: l.drop (k + 1)) (zi (l.take k) s).1 := by
    conv => lhs; rw [e]
    exact qu _ _ _ h
  rw [h3]
  show (if _ = 0 then _ else _) = _
  rw [ah h2]
noncomputable def wg (s : eL) (ey : Bool) (ks : List Kl) (l : List Nd) : eL × Int :=
  if zg s = true then
    (if ey = true then xO s
     else if (zi ks s).2 = 0 then
       (if (yt (zS s) l).1 = 0 then yb (zi ks s).1 (yt (zS s) l).2 else (xP, (yt (zS s) l).1))
     else (xP, (zi ks s).2))
  else (xP, 1)
theorem ZJ {K : Nat} : ∀ (l : List Kl) (s : eL), eV K s.dU → eV K (zi l s).1.dU
  | [], _, h => h
  | k :: r, s, h => by
    unfold zi
    split
    · exact ZJ r _ (uu h)
    exact fun g hg => by cases hg
theorem ZK : ∀ (l : List Kl) (s : eL), (zi l s).1.dU.length ≤ s.dU.length
  | [], _ => ai _
  | k :: r, s => by
    unfold zi
    split
    · exact ak (ZK r _) (Sz _ _ _)
    exact au _
/-! ### Dq in memory, as they are read -/
structure rQ (w : World) (v : Value) (ks : List KP) : Prop where
  row : iy 2 jQ w v ks
  keys : ∀ p ∈ ks, lX w p.2.1 p.2.2
theorem rQ.below {w w' : World} {v : Value} {ks : List KP} (h : rQ w v ks) (hb : Below w.heap.size w w') : rQ w' v ks := ⟨iy.below h.row hb, fun p hp => iw.below (h.keys p hp) hb⟩
theorem ZL {l : List KP} {i : Nat} (h : i < l.length) : jh l i ∈ l := by
  unfold jh;rw [ax, aB h]; exact bI h
theorem rQ.shape {w : World} {v : Value} {ks : List KP} (h : rQ w v ks) : ∃ a cap, v = .slice a ks.length cap ∧ ks.length ≤ cap ∧ cap ≤ maxLen := by
  obtain ⟨a, cap, h1, h2, h3, _⟩ := iy.shape h.row (by decide) (0, .slice none 0 0, []);exact ⟨a, cap, h1, h2, h3⟩
theorem rQ.at {w : World} {a : Option Addr} {n cap : Nat} {ks : List KP} (h : rQ w (.slice a n cap) ks) {j : Nat} (hj : j < n) : ∃ b off, a = some ⟨b, off, none⟩ ∧ lX w (jh ks j).2.1 (jh ks j).2.2 ∧
    w.cell? ⟨b, off + j * 2, none⟩ = some (.int .i64 (jh ks j).1) ∧ w.cell? ⟨b, off + j * 2 + 1, none⟩ = some (jh ks j).2.1 := by
  obtain ⟨a', cap', e, h2, h3, _, h5⟩ := iy.shape h.row (by decide) (0, .slice none 0 0, []);injection e with e1 e2 e3;subst e1 e2 e3;obtain ⟨b, off, e, hc⟩ := h5 (by omega);refine ⟨b, off, e, h.keys _ (ZL hj), ?_, hc j hj 1 _ rfl⟩;have := hc j hj 0 _ rfl; rwa [bn] at this
theorem zIO (ks : List KP) (i : Nat) : yH (gX ks) i = ((jh ks i).1, (jh ks i).2.2) := by
  unfold yH gX jh;rw [ax, ax, cm]
  cases ks[i]? <;> rfl
end Go.Proofs.YtcgfilmmokmdjaaGreat
