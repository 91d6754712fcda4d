/- A part of the walk. -/
import Derived.Test.YtcgfilmmokmdjaaGreatQAQ
import Derived.Test.YtcgfilmmokmdjaaGreatSkb
import Derived.Test.YtcgfilmmokmdjaaGreatQAN
import Derived.Test.YtcgfilmmokmdjaaGreatQAO
import Derived.Test.YtcgfilmmokmdjaaGreatQAL
set_option linter.all false
set_option maxRecDepth 100000
set_option maxHeartbeats 32000000
namespace Go.Proofs.YtcgfilmmokmdjaaGreat
open Go.RowKit
def CD (w0 : World) (p : eL × Int) (e : Ending) (w' : World) : Prop := (∃ a n c L, e = .returned (.tuple #[zZ p.1.id p.1.lim p.1.ro a n c, .int .i64 p.2]) ∧ gD w' w0.heap.size (.slice a n c) n L ∧ dZ L = p.1.dU) ∧ Below w0.heap.size w0 w'
theorem gD.nil (w : World) (B : Nat) : gD w B (.slice Option.none 0 0) 0 [] := ⟨aU _ _ _ _, rfl, fun p hp => by cases hp⟩
theorem CD.no {w0 w : World} {c : Int} (h : Below w0.heap.size w0 w) : CD w0 (xP, c) (.returned (.tuple #[zZ 0 0 false Option.none 0 0, .int .i64 c])) w := ⟨⟨Option.none, 0, 0, [], rfl, gD.nil _ _, rfl⟩, h⟩
theorem zCO {s : eL} (hV : eo s) {k : Nat} (hk : k < s.dU.length) {y : Gn} (h : (eN s.dU k).num = y.num) : uV s.dU y = s.dU.set k y := by
 have nT : ∀ i j, i < j → j < s.dU.length → (eN s.dU i).num < (eN s.dU j).num := by
  intro i j hij
  induction j with
  | zero => omega
  | succ j ih =>
   intro hj;have h1 := (hV.g (j + 1) hj).2.1 (by omega);rw [show j + 1 - 1 = j by omega] at h1
   by_cases e : i = j
   ·
    subst e; exact h1
   have := ih (by omega) (by omega); omega
 refine List.ext_getElem? fun i => ?_
 unfold uV;rw [cm, dH]
 by_cases hi : i < s.dU.length
 ·
  have eg : eN s.dU i = s.dU[i] := by unfold eN; rw [ax, aB hi]; rfl
  rw [aB hi, ← eg]
  by_cases e : k = i
  ·
   subst e;simp [h, hi]
  rw [ah e];have hne : (eN s.dU i).num ≠ y.num := by
   rw [← h];rcases Nat.lt_or_gt_of_ne e with h1 | h1
   ·
    have := nT k i h1 hi; omega
   have := nT i k h1 hk; omega
  simp [hne]
 rw [List.getElem?_eq_none (by omega)]
 by_cases e : k = i
 ·
  omega
 rw [ah e]; rfl
theorem zBa (g : Gn) (s : Sl) (w : World) (h : fw w s g.m.st) (hs : ∀ i, i < 8 → (g.m.st i).length ≤ 10000) :
  Calls Tryz.prog 61 #[za g.num g.rev g.mode g.size s g.m.live g.m.dW] w (G4 w (xK g 1)) := by
 have HT := zh (fun W (hb : Below w.heap.size w W) => zEi g s 1 W (h.below hb) hs);clear hs;generalize xK g 1 = TG at *;obtain ⟨n, r, md, z, ⟨f, L, G⟩⟩ := g;dsimp only at *;obtain ⟨W, hW, fc, hbr, fB⟩ := wU w n r md z s L G 38;have HX := zh fc;have HR := zh hbr;have HB := zh fB;clear fc hbr fB h
 go_enter Tryz.func61, Tryz.ntmps61
 go_upto_region 1 with fail;change Code.wp _ _ _ _ ((w.alloc (.cells (zW n r md z s L G) 38)).alloc (.cells (zW 0 0 0 0 Sl.nil 0 0) 38));rw [hW];clear hW;obtain ⟨x0, x1, x2, x3, x4, x5, x6, x7, x8, x9, fM, fN, fK, fL⟩ := HX.out.q;go_wp2_with fail;refine (HT.out _ HB.out).mono ?_;rintro e w1 ⟨⟨t, rfl, hr⟩, hb⟩;have AU := zh (hr.mono (show w.heap.size + 2 ≤ W.heap.size by have := HR.out.lt; omega));have eY := zh (HR.out.below hb);have eQ := zh (zA HB.out hb);have hlr := HR.out.lt;clear x0 x1 x2 x3 x4 x5 x6 x7 x8 x9 fM fN fK fL;clear hr HX HT HR HB;obtain ⟨er, ⟨n', r', md', z', ⟨f', L', G'⟩⟩⟩ := TG;dsimp only at *;obtain ⟨r0, r1, r2, r3, r4, r5, r6, r7, r8, r9, lM, lr, l7, mP⟩ := eY.out.q;have rf := eY.out.f;go_wp2_with fail;change bodyPost _ _ _ _ _ (pts w1 (w.heap.size + 1) (zL n' r' md' z' t L' G'));have hby := eY.out.all n' r' md' z' t L' G'
 have ek := zh (zD (B := w.heap.size) (b := (w.heap.size + 1)) (by omega) (zL n' r' md' z' t L' G') eQ.out);have gB := (AU.out.pts (show w.heap.size + 1 < w.heap.size + 2 by omega) (zL n' r' md' z' t L' G')).mono (show w.heap.size ≤ w.heap.size + 2 by omega);generalize pts w1 (w.heap.size + 1) (zL n' r' md' z' t L' G') = V at *;exact aw (v := .tuple #[za n' r' md' z' t L' G', .int .i64 er]) (by simp [results, Tryz.results61, go_sem, hby.q]) rfl ⟨⟨_, rfl, gB⟩, ek.out⟩
theorem zKY (i l : Int) (r : Bool) (a : Option Addr) (n c : Nat) (L : List GP) (w : World) (h : fq w (.slice a n c) L) (hs : ∀ p ∈ L, ∀ j, j < 8 → (p.1.m.st j).length ≤ 10000) (y : GP) (hy : fw w y.2 y.1.m.st) (AX : ∀ j, j < 8 → (y.1.m.st j).length ≤ 10000) (hv : zg ⟨i, l, r, dZ L⟩ = false) :
  Calls Tryz.prog 14 #[zZ i l r a n c, za y.1.num y.1.rev y.1.mode y.1.size y.2 y.1.m.live y.1.m.dW] w (CD w (yb ⟨i, l, r, dZ L⟩ y.1)) := by
 have gu := zh (fun W (hb : Below w.heap.size w W) => yQ i l r a n c L W (h.below hb) hs);have HC := zh (show yb ⟨i, l, r, dZ L⟩ y.1 = (xP, 1) by unfold yb; rw [hv]; rfl);rw [hv] at gu;clear h hs hv hy AX
 go_enter Tryz.func14, Tryz.ntmps14
 go_upto_region 1 with fail;change Code.wp _ _ _ _ (((w.alloc (.cells (zK i l r a n c) 27)).alloc (.cells (zW y.1.num y.1.rev y.1.mode y.1.size y.2 y.1.m.live y.1.m.dW) 38)).alloc (.cells (zK 0 0 false none 0 0) 27));obtain ⟨W, hW, fc, hbg, hbr, fB⟩ := qH w i l r a n c y 27 38;rw [hW];have HX := zh fc;have HG := zh hbg;have HR := zh hbr;have HB := zh fB;clear hW fc hbg hbr fB;obtain ⟨k0, k1, k2, k3⟩ := HX.out.q;go_wp2_with fail;refine (gu.out _ HB.out).mono ?_;rintro e w1 ⟨rfl, hb⟩;replace HX := zh (HX.out.below hb);replace HR := zh (HR.out.below hb);replace HB := zh (zA HB.out hb);clear hb;clear k0 k1 k2 k3;obtain ⟨z0, z1, z2, z3⟩ := HR.out.q;have zf := HR.out.f;go_wp2_with fail;change bodyPost _ _ _ _ _ (pts w1 (w.heap.size + 2) (zJ 0 0 false none 0 0));have hby := HR.out.all 0 0 false none 0 0
 have ek := zh (zD (B := w.heap.size) (b := (w.heap.size + 2)) (by omega) (zJ 0 0 false none 0 0) HB.out);generalize pts w1 (w.heap.size + 2) (zJ 0 0 false none 0 0) = V at *;exact aw (v := .tuple #[zZ 0 0 false none 0 0, .int .i64 1]) (by simp [results, Tryz.results14, go_sem, hby.c0, hby.c1, hby.c2, hby.c3]) rfl (by rw [HC.out]; exact CD.no ek.out)
theorem zII (i l : Int) (r : Bool) (a : Option Addr) (n c : Nat) (L : List GP) (w : World) (h : fq w (.slice a n c) L) (hs : ∀ p ∈ L, ∀ j, j < 8 → (p.1.m.st j).length ≤ 10000) (y : GP) (hy : fw w y.2 y.1.m.st) (AX : ∀ j, j < 8 → (y.1.m.st j).length ≤ 10000) (hv : zg ⟨i, l, r, dZ L⟩ = true) :
  Calls Tryz.prog 14 #[zZ i l r a n c, za y.1.num y.1.rev y.1.mode y.1.size y.2 y.1.m.live y.1.m.dW] w (CD w (yb ⟨i, l, r, dZ L⟩ y.1)) := by
 have gu := zh (fun W (hb : Below w.heap.size w W) => yQ i l r a n c L W (h.below hb) hs);have hV := (zR _).1 hv;have fR : L.length = n := by
  obtain ⟨_, _, e, _⟩ := h.shape;injection e with _ e _; exact e.symm
 have hl : (dZ L).length = n := by rw [zj, fR]
 have hn : 1 ≤ n ∧ n ≤ 8 := by have := hV.len; simp only [hl] at this; exact this
 have HC := zh (show yb ⟨i, l, r, dZ L⟩ y.1 = (if qx L y.1.num n = true then (if zg ⟨i, l, r, uV (dZ L) y.1⟩ = true then (⟨i, l, r, uV (dZ L) y.1⟩, 0) else (xP, 1)) else (xP, 6)) by
  unfold yb; rw [ag hv, X6 L y.1.num n fR.symm])
 have Ih := zh (fun k (hk : k < n) (e : (pat L k).1.num = y.1.num) => show uV (dZ L) y.1 = (dZ L).set k y.1 from zCO hV (k := k) (by rw [hl]; exact hk) (by rw [yu]; exact e))
 have R1 := zh (show ∀ k, k < n → (pat L k).1.num = y.1.num → qx L y.1.num n = true from fun k hk e => by
  unfold qx
  rw [List.any_eq_true]
  refine ⟨pat L k, ?_, by simp [e]⟩
  rw [aR (by omega)]
  exact yd (by omega))
 have LI := zh (show (∀ j, j < L.length → (pat L j).1.num ≠ y.1.num) → qx L y.1.num n = false from fun hh => by
  unfold qx
  rw [Bool.eq_false_iff]
  intro ht
  rw [List.any_eq_true] at ht
  obtain ⟨x, hx, e⟩ := ht
  obtain ⟨j, hj, rfl⟩ := b8 (bN hx)
  have h1 := hh j hj
  unfold pat at h1
  rw [ax, aB hj] at h1
  exact h1 (aY e))
 rw [hv] at gu;have ni := zh h;have JD := zh hs;have l9 := zh hy;have By := zh AX;have iN := zh fR;clear h hs hv hV fR hl hy AX;obtain ⟨⟨num, rev, md, sz, ⟨fs, LV, GA⟩⟩, s⟩ := y;dsimp only at *
 go_enter Tryz.func14, Tryz.ntmps14
 go_upto_region 1 with fail;change Code.wp _ _ _ _ (((w.alloc (.cells (zK i l r a n c) 27)).alloc (.cells (zW num rev md sz s LV GA) 38)).alloc (.cells (zK 0 0 false none 0 0) 27));obtain ⟨W, hW, fc, hbg, hbr, fB⟩ := qH w i l r a n c (⟨num, rev, md, sz, ⟨fs, LV, GA⟩⟩, s) 27 38;rw [hW];have HX := zh fc;have HG := zh hbg;have HR := zh hbr;have HB := zh fB;clear hW fc hbg hbr fB;have hB0 : w.heap.size + 3 ≤ W.heap.size := by have := HR.out.lt; omega
 dsimp only at HG;obtain ⟨k0, k1, k2, k3⟩ := HX.out.q;go_wp2_with fail;refine (gu.out _ HB.out).mono ?_;rintro e w1 ⟨rfl, hb⟩;replace HX := zh (HX.out.below hb);replace HG := zh (HG.out.below hb);replace HR := zh (HR.out.below hb);replace HB := zh (zA HB.out hb);have hB1 := ak hB0 hb.size;clear hb gu;clear k0 k1 k2 k3;have LJ := zh (zFf a n c L (w.heap.size + 1) num rev md sz s LV GA w1 (ni.out.below HB.out) (by omega) HG.out);have k3 := HX.out.c3;go_wp2_with fail;refine LJ.out.mono ?_;rintro e w2 ⟨⟨z, rfl, hF⟩, hb⟩;replace HX := zh (HX.out.below hb);replace HG := zh (HG.out.below hb);replace HR := zh (HR.out.below hb);replace HB := zh (zA HB.out hb);have hB2 := ak hB1 hb.size;clear hb k3 LJ;rcases hF with ⟨k, hk, rfl, hkn, _⟩ | ⟨rfl, hF⟩
 ·
  have hk' : k < n := by rw [← iN.out]; exact hk
  have Ao := zh (HC.out.trans (ag (R1.out k hk' hkn)));have Yv := Ih.out k hk' hkn;rw [Yv] at Ao;clear HC R1 LI Ih Yv hk hkn;have i1 : ¬ (k : Int) < 0 := by omega
  obtain ⟨k0, k1, k2, k3⟩ := HX.out.q;go_wp2_with fail;refine (Yl i l r a n c L w2 (ni.out.below HB.out) JD.out (by omega)).mono ?_;rintro e w3 hq;obtain ⟨⟨a1, c1, M, rfl, ho, hg⟩, hb⟩ := hq;have pd := zh (ho.lower hB2);have jW := zh hg;clear k0 k1 k2 k3 ho hg;replace HX := zh (HX.out.below hb);replace HG := zh (HG.out.below hb);replace HR := zh (HR.out.below hb);replace HB := zh (zA HB.out hb);have FN := ak hB2 hb.size;clear hb;obtain ⟨k0, k1, k2, k3⟩ := HX.out.q;have kf := HX.out.f;go_upto_region 7 with fail;clear k0 k1 k2 k3 kf;obtain ⟨g, rfl, hgB, nH⟩ := uJ pd.out.row (by omega);have ia := zh (HX.out.all i l r (some ⟨g, 0, none⟩) n c1);have ET := zh (HG.out.eu (c := w.heap.size) (by omega) (zJ i l r (some ⟨g, 0, none⟩) n c1));have jF := zh (HR.out.eu (d := w.heap.size) (by omega) (zJ i l r (some ⟨g, 0, none⟩) n c1))
  have fQ := zh (zD (B := w.heap.size) (b := w.heap.size) (ai _) (zJ i l r (some ⟨g, 0, none⟩) n c1) HB.out);have iB := zh (pd.out.pts (b := w.heap.size) (by omega) (zJ i l r (some ⟨g, 0, none⟩) n c1));have pM : w.heap.size + 3 ≤ (pts w3 w.heap.size (zJ i l r (some ⟨g, 0, none⟩) n c1)).heap.size := by rw [wC]; exact FN
  clear HX HG HR HB pd;change Code.wp _ _ _ _ (pts w3 w.heap.size (zJ i l r (some ⟨g, 0, none⟩) n c1));generalize pts w3 w.heap.size (zJ i l r (some ⟨g, 0, none⟩) n c1) = w4 at *;have Ef := zh (fun W (hb : Below w4.heap.size w4 W) => qd ⟨num, rev, md, sz, ⟨fs, LV, GA⟩⟩ s W (l9.out.below (zA fQ.out hb)) By.out);dsimp only at Ef;refine yO [eR (.pointer (some ⟨w.heap.size, 3, none⟩)), eR (.slice (some ⟨g, 0, none⟩) n c1), eR (.int .i64 (k : Int)), eR (za num rev md sz s LV GA), Yk (w.heap.size + 3) ⟨num, rev, md, sz, ⟨fs, LV, GA⟩⟩] [] 31 (by kernel_rfl) (by kernel_rfl) (by rfl) (by kernel_rfl) (fun f => by simp [fA, zX, Act.put]; exact rfl) ?_ ?_
  ·
   refine ⟨?_, ?_, ?_, ?_, ?_, trivial⟩
   ·
    intro f w1 hb hd;clear hd;dsimp only;go_wp2_with fail;exact pS rfl (by simp)
   ·
    intro f w1 hb hd;have d0 : f 0 = (.pointer (some ⟨w.heap.size, 3, none⟩)) := hd 0 (by kernel_rfl);clear hd;dsimp only;rw [d0];have q3 := (ia.out.below hb).c3;go_wp2_with fail;exact pS rfl (by simp)
   ·
    intro f w1 hb hd;clear hd;dsimp only;go_wp2_with fail;exact pS rfl (by simp)
   ·
    intro f w1 hb hd;clear hd;dsimp only;have zo := ET.out.below hb;obtain ⟨q0, q1, q2, q3, q4, q5, q6, q7, q8, q9, AY, AZ, A0, A1⟩ := zo.q;clear zo;go_wp2_with fail;exact pS rfl (by simp)
   intro f w1 hb hd;have d3 : f 3 = (za num rev md sz s LV GA) := hd 3 (by kernel_rfl);clear hd;dsimp only;rw [d3];go_wp2_with fail;refine (Ef.out w1 hb).mono ?_;rintro e w9 ⟨⟨s9, rfl, AQ⟩, fT⟩;have i_ := zh (AQ.mono (ak pM hb.size));clear AQ;go_wp2_with fail;exact ⟨rfl, fT, fun t ht => by injection ht with ht; subst ht; exact ⟨⟨s9, rfl, i_.out⟩, fun h => by simp at h⟩⟩
  intro f w5 hb hd jc;clear jc;have d1 : f 1 = .slice (some ⟨g, 0, none⟩) n c1 := hd 1 (show 1 < 5 by decide);have d2 : f 2 = .int .i64 (k : Int) := hd 2 (show 2 < 5 by decide);obtain ⟨s4, d4, E5⟩ := show ∃ s, f 4 = za num rev md sz s LV GA ∧ eU w5 (w.heap.size + 3) s fs from hd 4 (show 4 < 5 by decide);clear hd
  try dsimp only
  rw [d1, d2, d4];clear d1 d2 d4;generalize f 0 = z0;generalize f 3 = z3;clear f;have E8 := iB.out.keep hb;have RY := zh ((N8 E8.row E8.len hk').there (wO E8.row));have jE := zh (E8.set k hk' ((⟨num, rev, md, sz, ⟨fs, LV, GA⟩⟩ : Gn), s4) E5);dsimp only at jE;have fk := zh ((ia.out.below hb).eu (d := g) (by omega) (o_ (k * 14) num rev md sz s4 LV GA));have jV := zh ((jF.out.below hb).eu (d := g) (by omega) (o_ (k * 14) num rev md sz s4 LV GA));have gp := zh (zD (B := w.heap.size) (b := g) (by omega) (o_ (k * 14) num rev md sz s4 LV GA) (zA fQ.out hb));have FP := zh (show dZ (M.set k ((⟨num, rev, md, sz, ⟨fs, LV, GA⟩⟩ : Gn), s4)) = (dZ L).set k (⟨num, rev, md, sz, ⟨fs, LV, GA⟩⟩ : Gn) from by rw [RX, jW.out])
  have Yw := zh (show ∀ p ∈ M.set k ((⟨num, rev, md, sz, ⟨fs, LV, GA⟩⟩ : Gn), s4), ∀ j, j < 8 → (p.1.m.st j).length ≤ 10000 from fun p hp j hj => by
   rcases List.mem_or_eq_of_mem_set hp with hp | rfl
   ·
    have h1 : p.1 ∈ dZ L := jW.out ▸ cZ hp
    obtain ⟨q, hq, e⟩ := List.mem_map.1 h1
    rw [← e]; exact JD.out q hq j hj
   exact By.out j hj)
  clear E8 E5 hb Ef ia ET jF fQ iB jW;change wpList _ _ _ (_ :: _ :: []) _ _;go_wp2_with (first | ((with_reducible refine wpList_store_mid ?_ 38 (.tmp 25) (.tmp 24) ?_ g (k * 14) (zW num rev md sz s4 LV GA) ?_ ?_ ?_ ?_ ?_ ?_); rfl; rfl; rfl; rfl; exact RY.out; exact RN; exact kt _ _ _ _ _ _ _; rw [kV]; generalize (pts w5 g (o_ (k * 14) num rev md sz s4 LV GA)) = w6 at *; have k0 := fk.out.c0; have k1 := fk.out.c1; have k2 := fk.out.c2; have k3 := fk.out.c3));refine (yQ i l r (some ⟨g, 0, none⟩) n c1 _ w6 jE.out.rd Yw.out).mono ?_;rintro e w7 ⟨rfl, hb⟩;rw [FP.out];replace fk := zh (fk.out.below hb);replace jV := zh (jV.out.below hb);replace gp := zh (zA gp.out hb);replace jE := zh (jE.out.keep hb);clear hb k0 k1 k2 k3 Yw;generalize Ig : zg ⟨i, l, r, (dZ L).set k (⟨num, rev, md, sz, ⟨fs, LV, GA⟩⟩ : Gn)⟩ = bv at *
  cases bv
  ·
   have HC := zh (Ao.out.trans (ah (by decide)));clear Ao Ig;obtain ⟨z0, z1, z2, z3⟩ := jV.out.q;have zf := jV.out.f;go_wp2_with fail;change bodyPost _ _ _ _ _ (pts w7 (w.heap.size + 2) (zJ 0 0 false none 0 0));have hby := jV.out.all 0 0 false none 0 0;have ek := zh (zD (B := w.heap.size) (b := (w.heap.size + 2)) (by omega) (zJ 0 0 false none 0 0) gp.out);generalize pts w7 (w.heap.size + 2) (zJ 0 0 false none 0 0) = V at *;exact aw (v := .tuple #[zZ 0 0 false none 0 0, .int .i64 1]) (by simp [results, Tryz.results14, go_sem, hby.c0, hby.c1, hby.c2, hby.c3]) rfl (by rw [HC.out]; exact CD.no ek.out)
  have HC := zh (Ao.out.trans (ag rfl));clear Ao Ig;obtain ⟨k0, k1, k2, k3⟩ := fk.out.q;obtain ⟨z0, z1, z2, z3⟩ := jV.out.q;have zf := jV.out.f;go_wp2_with fail;change bodyPost _ _ _ _ _ (pts w7 (w.heap.size + 2) (zJ i l r (some ⟨g, 0, none⟩) n c1));have BW := zh (jE.out.pts (b := w.heap.size + 2) (by omega) (zJ i l r (some ⟨g, 0, none⟩) n c1));have hby := jV.out.all i l r (some ⟨g, 0, none⟩) n c1;have ek := zh (zD (B := w.heap.size) (b := (w.heap.size + 2)) (by omega) (zJ i l r (some ⟨g, 0, none⟩) n c1) gp.out);generalize pts w7 (w.heap.size + 2) (zJ i l r (some ⟨g, 0, none⟩) n c1) = V at *;exact aw (v := .tuple #[zZ i l r (some ⟨g, 0, none⟩) n c1, .int .i64 0]) (by simp [results, Tryz.results14, go_sem, hby.c0, hby.c1, hby.c2, hby.c3]) rfl (by rw [HC.out]; exact ⟨⟨_, n, c1, _, rfl, BW.out.lower (by omega), FP.out⟩, ek.out⟩)
 have Ao := zh (HC.out.trans (ah (by rw [LI.out hF]; decide)));clear HC R1 LI Ih hF;obtain ⟨z0, z1, z2, z3⟩ := HR.out.q;have zf := HR.out.f;go_wp2_with fail;change bodyPost _ _ _ _ _ (pts w2 (w.heap.size + 2) (zJ 0 0 false none 0 0));have hby := HR.out.all 0 0 false none 0 0;have ek := zh (zD (B := w.heap.size) (b := (w.heap.size + 2)) (by omega) (zJ 0 0 false none 0 0) HB.out);generalize pts w2 (w.heap.size + 2) (zJ 0 0 false none 0 0) = V at *;exact aw (v := .tuple #[zZ 0 0 false none 0 0, .int .i64 6]) (by simp [results, Tryz.results14, go_sem, hby.c0, hby.c1, hby.c2, hby.c3]) rfl (by rw [Ao.out]; exact CD.no ek.out)
theorem Yx (i l : Int) (r : Bool) (a : Option Addr) (n c : Nat) (L : List GP) (w : World) (h : fq w (.slice a n c) L) (hs : ∀ p ∈ L, ∀ j, j < 8 → (p.1.m.st j).length ≤ 10000) (y : GP) (hy : fw w y.2 y.1.m.st) (AX : ∀ j, j < 8 → (y.1.m.st j).length ≤ 10000) : Calls Tryz.prog 14 #[zZ i l r a n c, za y.1.num y.1.rev y.1.mode y.1.size y.2 y.1.m.live y.1.m.dW] w (CD w (yb ⟨i, l, r, dZ L⟩ y.1)) := by
 cases hv : zg ⟨i, l, r, dZ L⟩
 ·
  exact zKY i l r a n c L w h hs y hy AX hv
 exact zII i l r a n c L w h hs y hy AX hv
def Dp (z : Int) : Value := .int .i64 z
def lu (w : World) (B : Nat) (v : Value) (l : List Int) : Prop := w.ownsRow B 3 1 v l.length (l.map Dp)
theorem Yz (l : List Gn) (key : Int) : ∀ n, (kF l key n).length ≤ n
 | 0 => au _
 | n + 1 => by
  have := Yz l key n;unfold kF;rw [aA]
  cases ze (eN l n).m key <;> simp <;> omega
end Go.Proofs.YtcgfilmmokmdjaaGreat
namespace Go.Proofs.YtcgfilmmokmdjaaGreat
open Go.RowKit
def iA (W : World) (B : Nat) (T : TypeId) (sz : Nat) (v : Value) (n : Nat) (xs : List Value) : Prop := Rd W sz v n xs ∧ ∀ g, v.ownBlock = some g → xs = [] ∨ g < B ∨ ∃ c f, W.heap[g]? = some (.cells c T f)
structure iJ (W W' : World) (B b : Nat) (T : TypeId) : Prop where
 lo : B ≤ b
 ty : ∃ c f, W.heap[b]? = some (.cells c T f)
 blk : ∀ k, k < W.heap.size → k ≠ b → W'.heap[k]? = W.heap[k]?
theorem iJ.pts {W : World} {B b : Nat} {T : TypeId} (hB : B ≤ b) (ht : ∃ c f, W.heap[b]? = some (.cells c T f)) : ∀ (vs : List (Nat × Value)), iJ W (Go.Proofs.YtcgfilmmokmdjaaGreat.pts W b vs) B b T := by
 have key : ∀ (vs : List (Nat × Value)) (W : World) (k : Nat), k ≠ b → (Go.Proofs.YtcgfilmmokmdjaaGreat.pts W b vs).heap[k]? = W.heap[k]? := by
  intro vs
  induction vs with
  | nil => intro W k _; rfl
  | cons p r ih =>
   intro W k hk;obtain ⟨i, u⟩ := p
   show (Go.Proofs.YtcgfilmmokmdjaaGreat.pts (W.setCell ⟨b, i, none⟩ u) b r).heap[k]? = _
   rw [ih _ k hk];exact Below.heap_setCell W ⟨b, i, none⟩ u k hk
 exact fun vs => ⟨hB, ht, fun k _ hk => key vs W k hk⟩
theorem iJ.grown {W W' : World} {B b : Nat} {T : TypeId} {row : Option Nat} (hB : B ≤ b) (ht : ∃ c f, W.heap[b]? = some (.cells c T f)) (hg : W.grownBy W' row) (hr : row = none ∨ row = some b) : iJ W W' B b T :=
 ⟨hB, ht, fun k hk hne => hg.block k hk (fun e => by rcases hr with h | h <;> rw [h] at e <;> cases e; exact hne rfl)⟩
theorem iA.below {W W' : World} {B : Nat} {T : TypeId} {sz : Nat} {v : Value} {n : Nat} {xs : List Value} (h : iA W B T sz v n xs) (hb : Below W.heap.size W W') : iA W' B T sz v n xs :=
 ⟨h.1.below hb, fun g hg => (h.2 g hg).imp id fun h => h.imp id fun ⟨c, f, h⟩ => ⟨c, f, by rw [hb.block g (Array.getElem?_eq_some_iff.1 h).1]; exact h⟩⟩
theorem iA.jw {W W' : World} {B b : Nat} {T T' : TypeId} {sz : Nat} {v : Value} {n : Nat} {xs : List Value} (h : iA W B T sz v n xs) (ho : iJ W W' B b T') (hne : T ≠ T') : iA W' B T sz v n xs := by
 obtain ⟨⟨h0, a, cap, e, h1, h2, h3, h4⟩, h5⟩ := h;subst e;have key : ∀ g, a.map (·.block) = some g → xs ≠ [] → g ≠ b := fun g hg hx e => by
  subst e;have GX : (Value.slice a n cap).ownBlock = some g := by
   cases a with
   | none => cases hg
   | some y => simpa [Value.ownBlock] using hg
  rcases h5 g GX with h | h | ⟨c, f, h⟩
  ·
   exact hx h
  ·
   have := ho.lo; omega
  obtain ⟨c', f', h'⟩ := ho.ty;rw [h] at h';injection h' with h';injection h' with _ h';exact hne h'
 refine ⟨⟨h0, a, cap, rfl, h1, h2, h3, fun hp => ?_⟩, fun g hg => ?_⟩
 ·
  obtain ⟨b', off, e, hc⟩ := h4 hp;refine ⟨b', off, e, fun j u hj => ?_⟩;have hc' := hc j u hj;have hlt := cI W _ hc';have hn := key b' (by rw [e]; rfl) (fun e => by rw [e] at hp; cases hp);exact (World.cell?_of_block (ho.blk b' hlt hn)).trans hc'
 by_cases hx : xs = []
 ·
  exact .inl hx
 have hg2 : a.map (·.block) = some g := by
  cases a with
  | none => cases hg
  | some y => simpa [Value.ownBlock] using hg
 rcases h5 g hg with h | h | ⟨c, f, h⟩
 ·
  exact .inl h
 ·
  exact .inr (.inl h)
 exact .inr (.inr ⟨c, f, by rw [ho.blk g (Array.getElem?_eq_some_iff.1 h).1 (key g hg2 hx)]; exact h⟩)
theorem iA.old {W : World} {B : Nat} {T : TypeId} {sz : Nat} {v : Value} {n : Nat} {xs : List Value} (h : Rd W sz v n xs) (hB : W.heap.size ≤ B) : iA W B T sz v n xs := by
 refine ⟨h, fun g hg => ?_⟩;obtain ⟨h0, a, cap, e, h1, h2, h3, h4⟩ := h
 by_cases hx : xs = []
 ·
  exact .inl hx
 right; left
 have hp : 0 < xs.length := by
  cases xs with
  | nil => exact absurd rfl hx
  | cons x r => simp
 obtain ⟨b', off, e', hc⟩ := h4 hp;subst e e';have GX : b' = g := by simpa [Value.ownBlock] using hg
 subst GX;have := cI W _ (hc 0 _ (aB hp));exact cS this hB
theorem iA.own {W : World} {B B' : Nat} {T : TypeId} {sz : Nat} {v : Value} {n : Nat} {xs : List Value} (h : W.ownsRow B' T sz v n xs) : iA W B T sz v n xs :=
 ⟨zr h, fun g hg => .inr (.inr (Lib.ownsRow_kind h g hg))⟩
theorem zKK {W W' : World} {B B' b : Nat} {T T' : TypeId} {sz n : Nat} {v : Value} {xs : List Value} (h : W.ownsRow B' T sz v n xs) (ho : iJ W W' B b T') (hne : v.ownBlock ≠ some b) : W'.ownsRow B' T sz v n xs := by
 obtain ⟨h1, h2⟩ := h;refine ⟨h1, ?_⟩;rcases h2 with h2 | ⟨g, cap, cur, e, hb, hg, h3⟩
 ·
  exact .inl h2
 refine .inr ⟨g, cap, cur, e, hb, ?_, h3⟩;rw [ho.blk g (Array.getElem?_eq_some_iff.1 hg).1 (fun e2 => hne (by rw [e, e2]; rfl))];exact hg
theorem xh {W W' : World} {B B' b : Nat} {T T' : TypeId} {sz n : Nat} {v : Value} {xs : List Value} (h : W.ownsRow B' T sz v n xs) (ho : iJ W W' B b T') (hne : T ≠ T') : W'.ownsRow B' T sz v n xs :=
 zKK h ho fun e => by
  obtain ⟨c, f, h1⟩ := Lib.ownsRow_kind h b e;obtain ⟨c', f', h2⟩ := ho.ty;rw [h1] at h2;injection h2 with h2;injection h2 with _ h2;exact hne h2
/-! ### iV -/
def Ce (W : World) (B : Nat) (s : Sl) (f : Nat → List It) : Prop := ∀ i, i < 8 → iA W B 49 4 (s.v i) (f i).length (zU (f i))
theorem Ce.rd {W : World} {B : Nat} {s : Sl} {f : Nat → List It} (h : Ce W B s f) : fw W s f := fun i hi => yj (h i hi).1
theorem Ce.below {W W' : World} {B : Nat} {s : Sl} {f : Nat → List It} (h : Ce W B s f) (hb : Below W.heap.size W W') : Ce W' B s f := fun i hi => (h i hi).below hb
structure f_ (W : World) (B : Nat) (v : Value) (L : List GP) : Prop where
 r : iA W B 38 14 v L.length (L.flatMap gU)
 m : ∀ p ∈ L, Ce W B p.2 p.1.m.st
theorem f_.rd {W : World} {B : Nat} {v : Value} {L : List GP} (h : f_ W B v L) : fq W v L := ⟨⟨fun x _ => qz x, h.r.1⟩, fun p hp => (h.m p hp).rd⟩
theorem f_.below {W W' : World} {B : Nat} {v : Value} {L : List GP} (h : f_ W B v L) (hb : Below W.heap.size W W') : f_ W' B v L := ⟨h.r.below hb, fun p hp => (h.m p hp).below hb⟩
theorem f_.jw {W W' : World} {B b : Nat} {T' : TypeId} {v : Value} {L : List GP} (h : f_ W B v L) (ho : iJ W W' B b T') (h1 : 38 ≠ T') (h2 : 49 ≠ T') : f_ W' B v L := ⟨h.r.jw ho h1, fun p hp i hi => (h.m p hp i hi).jw ho h2⟩
theorem f_.old {W : World} {B : Nat} {v : Value} {L : List GP} (h : fq W v L) (hB : W.heap.size ≤ B) : f_ W B v L := ⟨iA.old h.r.2 hB, fun p hp i hi => iA.old (tK (h.m p hp i hi)) hB⟩
theorem f_.own {W : World} {B B' n : Nat} {v : Value} {L : List GP} (h : gD W B' v n L) : f_ W B v L := ⟨by have := h.row; rw [h.len] at this; exact iA.own this, fun p hp i hi => iA.own (h.m p hp i hi)⟩
/-! ### Requests -/
def ny (p : Rq × Value) : List Value := [.int .i64 p.1.tk, .int .i64 p.1.kind, .int .u64 (p.1.key : Int), .int .u32 (p.1.ck : Int), p.2]
theorem vC (p : Rq × Value) : (ny p).length = 5 := rfl
abbrev CG (tk kind key ck : Int) (d : Value) : Value := .agg #[.int .i64 tk, .int .i64 kind, .int .u64 key, .int .u32 ck, d]
structure oC (w : World) (v : Value) (qs : List (Rq × Value)) : Prop where
 row : iy 5 ny w v qs
 dat : ∀ p ∈ qs, oH w p.2 p.1.data
theorem oC.below {w w' : World} {v : Value} {qs : List (Rq × Value)} (h : oC w v qs) (hb : Below w.heap.size w w') : oC w' v qs := ⟨iy.below h.row hb, fun p hp => iw.below (h.dat p hp) hb⟩
def jX (l : List (Rq × Value)) (i : Nat) : Rq × Value := l.getD i (JC, .slice none 0 0)
theorem kQ {l : List (Rq × Value)} {i : Nat} (h : i < l.length) : jX l i ∈ l := by
 unfold jX;rw [ax, aB h]; exact bI h
theorem oC.shape {w : World} {v : Value} {qs : List (Rq × Value)} (h : oC w v qs) : ∃ a cap, v = .slice a qs.length cap ∧ qs.length ≤ cap ∧ cap ≤ maxLen := by
 obtain ⟨a, cap, h1, h2, h3, _⟩ := iy.shape h.row (by decide) (JC, .slice none 0 0);exact ⟨a, cap, h1, h2, h3⟩
theorem oC.at {w : World} {a : Option Addr} {n cap : Nat} {qs : List (Rq × Value)} (h : oC w (.slice a n cap) qs) {j : Nat} (hj : j < n) : ∃ b off, a = some ⟨b, off, none⟩ ∧ oH w (jX qs j).2 (jX qs j).1.data ∧
  w.cell? ⟨b, off + j * 5, none⟩ = some (.int .i64 (jX qs j).1.tk) ∧ w.cell? ⟨b, off + j * 5 + 1, none⟩ = some (.int .i64 (jX qs j).1.kind) ∧ w.cell? ⟨b, off + j * 5 + 2, none⟩ = some (.int .u64 ((jX qs j).1.key : Int)) ∧
  w.cell? ⟨b, off + j * 5 + 3, none⟩ = some (.int .u32 ((jX qs j).1.ck : Int)) ∧ w.cell? ⟨b, off + j * 5 + 4, none⟩ = some (jX qs j).2 := by
 obtain ⟨a', cap', e, h2, h3, _, h5⟩ := iy.shape h.row (by decide) (JC, .slice none 0 0);injection e with e1 e2 e3;subst e1 e2 e3;obtain ⟨b, off, e, hc⟩ := h5 (by omega);refine ⟨b, off, e, h.dat _ (kQ hj), ?_, hc j hj 1 _ rfl, hc j hj 2 _ rfl, hc j hj 3 _ rfl, hc j hj 4 _ rfl⟩;have := hc j hj 0 _ rfl; rwa [bn] at this
/-! ### EJ of the call's own, their bytes read -/
def gy (W : World) (B : Nat) (v : Value) (d : List UInt8) : Prop := iA W B 5 1 v d.length (d.map vh)
theorem gy.rd {W : World} {B : Nat} {v : Value} {d : List UInt8} (h : gy W B v d) : oH W v d := h.1
structure fS (W : World) (B : Nat) (v : Value) (es : List (Nd × Value)) : Prop where
 row : W.ownsRow B 56 4 v es.length (wM es)
 dat : ∀ p ∈ es, gy W B p.2 p.1.data
theorem fS.below {W W' : World} {B : Nat} {v : Value} {es : List (Nd × Value)} (h : fS W B v es) (hb : Below W.heap.size W W') : fS W' B v es := ⟨zH h.row hb, fun p hp => (h.dat p hp).below hb⟩
theorem fS.jw {W W' : World} {B b : Nat} {T' : TypeId} {v : Value} {es : List (Nd × Value)} (h : fS W B v es) (ho : iJ W W' B b T') (h1 : 56 ≠ T') (h2 : 5 ≠ T') : fS W' B v es := ⟨xh h.row ho h1, fun p hp => (h.dat p hp).jw ho h2⟩
/-! ### Dq of the call's own -/
abbrev KP := Int × Value × List Int
def jQ (p : KP) : List Value := [.int .i64 p.1, p.2.1]
theorem vn (p : KP) : (jQ p).length = 2 := rfl
def gX (l : List KP) : List Kl := l.map fun p => (p.1, p.2.2)
def jh (l : List KP) (i : Nat) : KP := l.getD i (0, .slice none 0 0, [])
structure gI (W : World) (B : Nat) (v : Value) (ks : List KP) : Prop where
 row : W.ownsRow B 89 2 v ks.length (ks.flatMap jQ)
 keys : ∀ p ∈ ks, W.ownsRow B 24 1 p.2.1 p.2.2.length (p.2.2.map Ji)
 apart : ks.Pairwise fun p q => p.2.1.ownBlock = none ∨ p.2.1.ownBlock ≠ q.2.1.ownBlock
theorem gI.below {W W' : World} {B : Nat} {v : Value} {ks : List KP} (h : gI W B v ks) (hb : Below W.heap.size W W') : gI W' B v ks := ⟨zH h.row hb, fun p hp => zH (h.keys p hp) hb, h.apart⟩
theorem gI.jw {W W' : World} {B b : Nat} {T' : TypeId} {v : Value} {ks : List KP} (h : gI W B v ks) (ho : iJ W W' B b T') (h1 : 89 ≠ T') (h2 : 24 ≠ T') : gI W' B v ks := ⟨xh h.row ho h1, fun p hp => xh (h.keys p hp) ho h2, h.apart⟩
/-! ### The nR -/
abbrev tZ (i l : Int) (r : Bool) (ga : Option Addr) (gn gc : Nat) (ey : Bool) (kv nv rv : Value) (mf : Int) : Array Value := #[.int .i64 i, .int .i64 l, .bool r, .slice ga gn gc, .bool ey, .int .i64 0, kv, nv, rv, .int .i64 mf]
structure lF (W : World) (B : Nat) (P : fh) (ga : Option Addr) (gn gc : Nat) (L : List GP) (kv : Value) (ks : List KP) (nv : Value) (es : List (Nd × Value)) (rv : Value) : Prop where
 g : f_ W B (.slice ga gn gc) L
 gg : dZ L = P.t.dU
 k : gI W B kv ks
 kk : gX ks = P.ep
 n : fS W B nv es
 nn : es.map (·.1) = P.needs
 r : W.ownsRow B 39 1 rv P.res.length (P.res.map Dp)
section
variable {W W' : World} {B b : Nat} {P : fh} {ga : Option Addr} {gn gc : Nat} {L : List GP} {kv : Value} {ks : List KP} {nv : Value} {es : List (Nd × Value)} {rv : Value}
theorem lF.below (h : lF W B P ga gn gc L kv ks nv es rv) (hb : Below W.heap.size W W') : lF W' B P ga gn gc L kv ks nv es rv :=
 ⟨h.g.below hb, h.gg, h.k.below hb, h.kk, h.n.below hb, h.nn, zH h.r hb⟩
theorem lF.jw (h : lF W B P ga gn gc L kv ks nv es rv) (ho : iJ W W' B b 145) : lF W' B P ga gn gc L kv ks nv es rv :=
 ⟨h.g.jw ho (by decide) (by decide), h.gg, h.k.jw ho (by decide) (by decide), h.kk, h.n.jw ho (by decide) (by decide), h.nn, xh h.r ho (by decide)⟩
end
abbrev oL (W : World) (b : Nat) (i l : Int) (r : Bool) (ga : Option Addr) (gn gc : Nat) (ey : Bool) (kv nv rv : Value) (mf : Int) : Prop := dV W b (tZ i l r ga gn gc ey kv nv rv mf) 145
def p_ (W : World) (B b : Nat) (P : fh) : Prop := ∃ ga gn gc L kv ks nv es rv, B ≤ b ∧ oL W b P.t.id P.t.lim P.t.ro ga gn gc P.ey kv nv rv P.bytes ∧ lF W B P ga gn gc L kv ks nv es rv
theorem p_.below {W W' : World} {B b : Nat} {P : fh} (h : p_ W B b P) (hb : Below W.heap.size W W') : p_ W' B b P := by
 obtain ⟨ga, gn, gc, L, kv, ks, nv, es, rv, h1, h2, h3⟩ := h;exact ⟨ga, gn, gc, L, kv, ks, nv, es, rv, h1, h2.below hb, h3.below hb⟩
end Go.Proofs.YtcgfilmmokmdjaaGreat
namespace Go.Proofs.YtcgfilmmokmdjaaGreat
theorem zKz {l : List Kl} {i : Nat} (h : i < l.length) : l[i]? = some (yH l i) := by
 unfold yH; rw [ax, aB h]; rfl
theorem uQ {l : List Kl} {i : Nat} (h : i < l.length) : yH l i ∈ l := by
 unfold yH;rw [ax, aB h]; exact bI h
theorem yx {l : List Kl} {i : Nat} (h : i < l.length) : l[i] = yH l i := by
 unfold yH; rw [ax, aB h]; rfl
theorem kj {l : List Kl} (ha : l.Pairwise fun a b => a.1 < b.1) {i j : Nat} (hij : i < j) (hj : j < l.length) : (yH l i).1 < (yH l j).1 := by
 have := List.pairwise_iff_getElem.1 ha i j (by omega) hj hij;rw [yx, yx] at this;exact this
theorem zLL {l : List Kl} {num : Int} {i : Nat} (hi : i ≤ l.length) (h1 : ∀ k, i = k + 1 → (yH l k).1 < num) (h2 : i < l.length → ¬ (yH l i).1 < num) (ha : l.Pairwise fun a b => a.1 < b.1) : fH l num = i := by
 have hlo : ∀ j, j < i → (yH l j).1 < num := fun j hj => by
  obtain ⟨k, rfl⟩ : ∃ k, i = k + 1 := ⟨i - 1, by omega⟩
  have h3 := h1 k rfl
  by_cases e : j = k
  ·
   rw [e]; exact h3
  have := kj ha (show j < k by omega) (by omega); omega
 unfold fH
 by_cases hin : i < l.length
 ·
  rw [(List.findIdx?_eq_some_iff_getElem (p := fun k : Kl => decide (num ≤ k.1)) (i := i)).2 ⟨hin, by rw [yx hin]; have := h2 hin; simp; omega, fun j hj => by rw [yx (show j < l.length by omega)]; have := hlo j hj; simp; omega⟩]
  rfl
 have e : i = l.length := by omega
 rw [List.findIdx?_eq_none_iff.2 fun x hx => by
  obtain ⟨j, hj, rfl⟩ := b8 hx
  rw [yx hj]
  have := hlo j (by omega)
  simp; omega]
 exact e.symm
theorem R2 (l : List Kl) (num : Int) : fH l num ≤ l.length := by
 unfold fH
 cases h : l.findIdx? fun k => decide (num ≤ k.1) with
 | none => exact ai _
 | some i => have := (List.findIdx?_eq_some_iff_getElem.1 h).1; exact bM this
theorem YA (l : List Kl) (num : Int) {j : Nat} (h : j < fH l num) : (yH l j).1 < num := by
 unfold fH at h
 cases e : l.findIdx? fun k => decide (num ≤ k.1) with
 | none =>
  rw [e] at h;have h : j < l.length := h;have := List.findIdx?_eq_none_iff.1 e _ (uQ h)
  simpa using this
 | some i =>
  rw [e] at h;have h : j < i := h;obtain ⟨h1, h2, h3⟩ := List.findIdx?_eq_some_iff_getElem.1 e;have := h3 j h;rw [yx (show j < l.length by omega)] at this
  simpa using this
theorem YB (l : List Kl) (num : Int) (h : fH l num < l.length) : num ≤ (yH l (fH l num)).1 := by
 have h0 := h;unfold fH at h0
 cases e : l.findIdx? fun k => decide (num ≤ k.1) with
 | none => rw [e] at h0; exact absurd h0 (Nat.lt_irrefl _)
 | some i =>
  obtain ⟨h1, h2, _⟩ := List.findIdx?_eq_some_iff_getElem.1 e;have e2 : fH l num = i := by unfold fH; rw [e]; rfl
  rw [e2, ← yx h1]
  simpa using h2
structure nS (M : Nat) (l : List Kl) : Prop where
 A2 : l.Pairwise fun a b => a.1 < b.1
 num : ∀ x ∈ l, 1 ≤ x.1 ∧ x.1 ≤ 8
 len : ∀ x ∈ l, x.2.length ≤ M
theorem nS.mono {M M' : Nat} {l : List Kl} (h : nS M l) (hm : M ≤ M') : nS M' l := ⟨h.A2, h.num, fun x hx => ak (h.len x hx) hm⟩
theorem nS.le8 {M : Nat} {l : List Kl} (h : nS M l) : l.length ≤ 8 := by
 have key : ∀ j, j < l.length → (j : Int) + 1 ≤ (yH l j).1 := by
  intro j
  induction j with
  | zero => intro hj; have := (h.num _ (uQ hj)).1; omega
  | succ j ih =>
   intro hj;have h1 := ih (by omega);have h2 := kj h.A2 (show j < j + 1 by omega) hj;omega
 by_cases e : 0 < l.length
 ·
  have h1 := key (l.length - 1) (by omega);have h2 := (h.num _ (uQ (show l.length - 1 < l.length by omega))).2;omega
 omega
theorem nS.nil (M : Nat) : nS M [] := ⟨List.Pairwise.nil, (fun x hx => by cases hx), (fun x hx => by cases hx)⟩
theorem kG {l : List Kl} {num key : Int} (h : fH l num < l.length ∧ (yH l (fH l num)).1 = num) : kM l num key = l.set (fH l num) (num, (yH l (fH l num)).2 ++ [key]) := by unfold kM; rw [ag h]
theorem tt {l : List Kl} {num key : Int} (h : ¬ (fH l num < l.length ∧ (yH l (fH l num)).1 = num)) : kM l num key = l.take (fH l num) ++ (num, [key]) :: l.drop (fH l num) := by unfold kM; rw [ah h]
theorem nS.ins {M : Nat} {l : List Kl} (h : nS M l) {num : Int} (hn : 1 ≤ num ∧ num ≤ 8) (key : Int) : nS (M + 1) (kM l num key) := by
 by_cases hh : fH l num < l.length ∧ (yH l (fH l num)).1 = num
 ·
  rw [kG hh];refine ⟨?_, fun x hx => ?_, fun x hx => ?_⟩
  ·
   rw [List.pairwise_iff_getElem];intro i j hi hj hij;rw [aZ] at hi hj;have := List.pairwise_iff_getElem.1 h.A2 i j hi hj hij;rw [List.getElem_set, List.getElem_set];have e : l[fH l num] = yH l (fH l num) := yx hh.1
   split
   ·
    rename_i e1
    split
    ·
     omega
    subst e1
    show num < l[j].1
    rw [e, hh.2] at this;exact this
   split
   ·
    rename_i e1 e2;subst e2
    show l[i].1 < num
    rw [e, hh.2] at this;exact this
   exact this
  ·
   rcases List.mem_or_eq_of_mem_set hx with hx | rfl
   ·
    exact h.num x hx
   exact hn
  rcases List.mem_or_eq_of_mem_set hx with hx | rfl
  ·
   exact Nat.le_succ_of_le (h.len x hx)
  have := h.len _ (uQ hh.1)
  show ((yH l (fH l num)).2 ++ [key]).length ≤ _
  rw [aA];exact Nat.succ_le_succ this
 rw [tt hh];have hle := R2 l num;have hlo := fun j (hj : j < fH l num) => YA l num hj
 have JJ : ∀ x ∈ l.drop (fH l num), num < x.1 := fun x hx => by
  obtain ⟨j, hj, rfl⟩ := b8 hx;rw [aK] at hj;rw [List.getElem_drop, yx (show fH l num + j < l.length by omega)];have h1 := YB l num (by omega);have h2 : (yH l (fH l num)).1 ≠ num := fun e => hh ⟨by omega, e⟩
  by_cases e : j = 0
  ·
   subst e; rw [bn]; omega
  have := kj h.A2 (show fH l num < fH l num + j by omega) (by omega); omega
 have od : ∀ x ∈ l.take (fH l num), x.1 < num := fun x hx => by
  obtain ⟨j, hj, rfl⟩ := b8 hx;rw [ay] at hj;rw [List.getElem_take, yx (show j < l.length by omega)];exact hlo j (by omega)
 refine ⟨?_, fun x hx => ?_, fun x hx => ?_⟩
 ·
  rw [List.pairwise_append, dz];refine ⟨h.A2.sublist (List.take_sublist _ _), ⟨fun y hy => JJ y hy, h.A2.sublist (List.drop_sublist _ _)⟩, fun x hx y hy => ?_⟩;have h1 := od x hx;rcases List.mem_cons.1 hy with rfl | hy
  ·
   exact h1
  have := JJ y hy; omega
 ·
  rcases List.mem_append.1 hx with hx | hx
  ·
   exact h.num x (bN hx)
  rcases List.mem_cons.1 hx with rfl | hx
  ·
   exact hn
  exact h.num x (dC hx)
 rcases List.mem_append.1 hx with hx | hx
 ·
  exact Nat.le_succ_of_le (h.len x (bN hx))
 rcases List.mem_cons.1 hx with rfl | hx
 ·
  show [key].length ≤ _; simp
 exact Nat.le_succ_of_le (h.len x (dC hx))
theorem vm (l : List KP) : (gX l).length = l.length := aI ..
theorem R3 {l : List KP} (i : Nat) : yH (gX l) i = ((jh l i).1, (jh l i).2.2) := by
 unfold yH gX jh;rw [ax, ax, cm]
 cases l[i]? <;> rfl
theorem Ol {l : List KP} {i : Nat} (h : i < l.length) : jh l i ∈ l := by
 unfold jh;rw [ax, aB h]; exact bI h
theorem qk {s : eL} {key : Int} {n : Int} (h : n ∈ zk s key) : 1 ≤ n ∧ n ≤ 8 := by
 unfold zk at h
 split at h
 ·
  rename_i hv;have hV := (zR s).1 hv;obtain ⟨i, hi, e⟩ := b8 h;obtain ⟨r, h1, h2, _, _⟩ := Rz s.dU key _ i hi;rw [aB hi, e] at h2;injection h2 with h2;have := (hV.vg (show r < s.dU.length by omega)).num;rw [h2]; exact this
 cases h
theorem YC (s : eL) (key : Int) : (zk s key).length ≤ 8 := by
 unfold zk
 split
 ·
  rename_i hv;have hV := (zR s).1 hv;have h1 := Yz s.dU key (s.dU.length - 1);have h2 := hV.len;omega
 exact au _
theorem eV.set {K : Nat} {l : List Gn} (h : eV K l) {g : Gn} (hg : ∀ i, i < 8 → (g.m.st i).length ≤ K) : eV K (uV l g) := fun x hx i hi => by
 rcases Rv hx with hx | rfl
 ·
  exact h x hx i hi
 exact hg i hi
theorem k8 {s : eL} {g : Gn} {K : Nat} (h : eV K s.dU) (hg : ∀ i, i < 8 → (g.m.st i).length ≤ K) : eV K (yb s g).1.dU := by
 by_cases hc : (yb s g).2 = 0
 ·
  rw [NY hc]; exact h.set hg
 have e : (yb s g).1 = xP := by
  unfold yb at hc ⊢
  split
  ·
   rename_i h1;rw [ag h1] at hc
   split
   ·
    rename_i h2;rw [ag h2] at hc
    split
    ·
     rename_i h3; rw [ag h3] at hc; exact absurd rfl hc
    rfl
   rfl
  rfl
 rw [e]; exact fun x hx => by cases hx
theorem uu {s : eL} {num : Int} {keys : List Int} {K : Nat} (h : eV K s.dU) : eV K (yX s num keys).1.dU := by
 unfold yX
 split
 ·
  rename_i h1
  split
  ·
   refine k8 h fun i hi => ?_
   have hk := h _ (th h1);have h0 : ((fW).m.st i).length ≤ K := au _;unfold ye
   split
   ·
    split
    ·
     exact h0
    exact wI keys _ hk i hi
   exact h0
  exact fun x hx => by cases hx
 exact fun x hx => by cases hx
end Go.Proofs.YtcgfilmmokmdjaaGreat
namespace Go.Proofs.YtcgfilmmokmdjaaGreat
open Go.RowKit
theorem zHE (i l : Int) (r : Bool) (a : Option Addr) (n c : Nat) (L : List GP) (w : World) (h : fq w (.slice a n c) L) (hs : ∀ p ∈ L, ∀ j, j < 8 → (p.1.m.st j).length ≤ 10000) (m : Int) :
  Calls Tryz.prog 36 #[zZ i l r a n c, .int .i64 m] w fun e w' => e = .returned (.bool (wW ⟨i, l, r, dZ L⟩ m)) ∧ Below w.heap.size w w' := by
 have gu := zh (fun W (hb : Below w.heap.size w W) => yQ i l r a n c L W (h.below hb) hs);have eE := zh (eT.new w i l r a n c 27);have eD := zh (zN w i l r a n c 27);have hcs : wW ⟨i, l, r, dZ L⟩ m = (zg ⟨i, l, r, dZ L⟩ && (decide (0 ≤ m) && decide (m ≤ 4096)) && decide ((zS ⟨i, l, r, dZ L⟩).size + (eM m.toNat : Nat) ≤ l)) := rfl
 cases hv : zg ⟨i, l, r, dZ L⟩
 ·
  rw [hv] at gu hcs;have HF := zh (show wW ⟨i, l, r, dZ L⟩ m = false by rw [hcs]; rfl);clear h hs hv hcs;generalize wW ⟨i, l, r, dZ L⟩ m = F at *
  go_enter Tryz.func36, Tryz.ntmps36
  go_upto_region 1 with fail;obtain ⟨W, hW⟩ : ∃ W, w.alloc (.cells (zK i l r a n c) 27) = W := ⟨_, rfl⟩
  change Code.wp _ _ _ _ (w.alloc (.cells (zK i l r a n c) 27));rw [hW] at eE eD ⊢;clear hW;have rE := eE.out.lt;obtain ⟨k0, k1, k2, k3⟩ := eE.out.q;go_wp2_with fail;refine (gu.out _ eD.out).mono ?_;rintro e w1 ⟨rfl, hb1⟩;have eQ := zh (zA eD.out hb1);clear k0 k1 k2 k3 hb1;go_wp2_with fail;go_ret;exact ⟨by rw [HF.out]; rfl, eQ.out⟩
 by_cases h1 : m < 0
 ·
  rw [hv] at gu hcs;have HF := zh (show wW ⟨i, l, r, dZ L⟩ m = false by rw [hcs, show decide (0 ≤ m) = false by simp; omega]; rfl);have e1 : decide (m < 0) = true := by simp; omega
  clear h hs hv hcs;generalize wW ⟨i, l, r, dZ L⟩ m = F at *
  go_enter Tryz.func36, Tryz.ntmps36
  go_upto_region 1 with fail;obtain ⟨W, hW⟩ : ∃ W, w.alloc (.cells (zK i l r a n c) 27) = W := ⟨_, rfl⟩
  change Code.wp _ _ _ _ (w.alloc (.cells (zK i l r a n c) 27));rw [hW] at eE eD ⊢;clear hW;have rE := eE.out.lt;obtain ⟨k0, k1, k2, k3⟩ := eE.out.q;go_wp2_with fail;refine (gu.out _ eD.out).mono ?_;rintro e w1 ⟨rfl, hb1⟩;have eQ := zh (zA eD.out hb1);clear k0 k1 k2 k3 hb1;go_wp2_with fail;go_ret;exact ⟨by rw [HF.out]; rfl, eQ.out⟩
 by_cases h2 : 4096 < m
 ·
  rw [hv] at gu hcs;have HF := zh (show wW ⟨i, l, r, dZ L⟩ m = false by rw [hcs, show decide (m ≤ 4096) = false by simp; omega]; simp);have e1 : decide (m < 0) = false := by simp; omega
  have e2 : decide ((4096 : Int) < m) = true := by simp; omega
  clear h hs hv hcs;generalize wW ⟨i, l, r, dZ L⟩ m = F at *
  go_enter Tryz.func36, Tryz.ntmps36
  go_upto_region 1 with fail;obtain ⟨W, hW⟩ : ∃ W, w.alloc (.cells (zK i l r a n c) 27) = W := ⟨_, rfl⟩
  change Code.wp _ _ _ _ (w.alloc (.cells (zK i l r a n c) 27));rw [hW] at eE eD ⊢;clear hW;have rE := eE.out.lt;obtain ⟨k0, k1, k2, k3⟩ := eE.out.q;go_wp2_with fail;refine (gu.out _ eD.out).mono ?_;rintro e w1 ⟨rfl, hb1⟩;have eQ := zh (zA eD.out hb1);clear k0 k1 k2 k3 hb1;go_wp2_with fail;go_ret;exact ⟨by rw [HF.out]; rfl, eQ.out⟩
 obtain ⟨k, rfl⟩ : ∃ k : Nat, m = (k : Int) := ⟨m.toNat, by omega⟩
 have fR : L.length = n := by
  obtain ⟨_, _, e, _⟩ := h.shape;injection e with _ e _; exact e.symm
 have hV := (zR _).1 hv;have hn : 1 ≤ n := by have := hV.len; simp only [zj, fR] at this; exact this.1
 obtain ⟨j, rfl⟩ : ∃ j, n = j + 1 := ⟨n - 1, by omega⟩
 refine (zHH i l r a (j + 1) c L w h hs hv k (by omega)).mono fun e w' ⟨he, hb⟩ => ⟨?_, hb⟩
 rw [he, hcs, hv, vP fR, show decide ((0 : Int) ≤ (k : Int)) = true by simp, show decide ((k : Int) ≤ 4096) = true by simp; omega];simp
end Go.Proofs.YtcgfilmmokmdjaaGreat
