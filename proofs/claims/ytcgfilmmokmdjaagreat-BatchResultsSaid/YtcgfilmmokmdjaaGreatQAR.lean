/- A part of the walk. -/
import Derived.Test.YtcgfilmmokmdjaaGreatQAQ
import Derived.Test.YtcgfilmmokmdjaaGreatSkb
import Derived.Test.YtcgfilmmokmdjaaGreatQAN
import Derived.Test.YtcgfilmmokmdjaaGreatQAO
import Derived.Test.YtcgfilmmokmdjaaGreatQAL
set_option maxRecDepth 100000
set_option maxHeartbeats 32000000
namespace Go.Proofs.YtcgfilmmokmdjaaGreat
open Go.RowKit
def CM (w0 : World) (p : eE × Int) (e : Ending) (w' : World) : Prop := (∃ a n c L, e = .returned (.tuple #[zZ p.1.id p.1.lim p.1.ro a n c, .int .i64 p.2]) ∧ gy w' w0.heap.size (.slice a n c) n L ∧ dV L = p.1.dP) ∧ Below w0.heap.size w0 w'
theorem gy.nil (w : World) (B : Nat) : gy w B (.slice Option.none 0 0) 0 [] := ⟨aV _ _ _ _, rfl, fun p hp => by cases hp⟩
theorem CM.no {w0 w : World} {c : Int} (h : Below w0.heap.size w0 w) : CM w0 (xP, c) (.returned (.tuple #[zZ 0 0 false Option.none 0 0, .int .i64 c])) w := ⟨⟨Option.none, 0, 0, [], rfl, gy.nil _ _, rfl⟩, h⟩
theorem YN {s : eE} (hV : ec s) {k : Nat} (hk : k < s.dP.length) {y : Gn} (h : (eH s.dP k).num = y.num) : uV s.dP y = s.dP.set k y := by
 have nR : ∀ i j, i < j → j < s.dP.length → (eH s.dP i).num < (eH s.dP j).num := by
  intro i j hij
  induction j with
  | zero => omega
  | succ j ih =>
   intro hj;have h1 := (hV.g (j + 1) hj).2.1 (by omega);rw [show j + 1 - 1 = j by omega] at h1
   by_cases e : i = j
   ·
    subst e; exact h1
   have := ih (by omega) (by omega); omega
 refine List.ext_getElem? fun i => ?_
 unfold uV;rw [b8, dq]
 by_cases hi : i < s.dP.length
 ·
  have eg : eH s.dP i = s.dP[i] := by unfold eH; rw [ax, aB hi]; rfl
  rw [aB hi, ← eg]
  by_cases e : k = i
  ·
   subst e;simp [h, hi]
  rw [ah e];have hne : (eH s.dP i).num ≠ y.num := by
   rw [← h];rcases Nat.lt_or_gt_of_ne e with h1 | h1
   ·
    have := nR k i h1 hi; omega
   have := nR i k h1 hk; omega
  simp [hne]
 rw [List.getElem?_eq_none (by omega)]
 by_cases e : k = i
 ·
  omega
 rw [ah e]; rfl
theorem YO (g : Gn) (s : Sl) (w : World) (h : fp w s g.m.st) (hs : ∀ i, i < 8 → (g.m.st i).length ≤ 10000) :
  Calls Tryz.prog 61 #[za g.num g.rev g.mode g.size s g.m.live g.m.dR] w (Hx w (xK g 1)) := by
 have HT := zh (fun W (hb : Below w.heap.size w W) => Xh g s 1 W (h.below hb) hs);clear hs;generalize xK g 1 = TG at *;obtain ⟨n, r, md, z, ⟨f, L, G⟩⟩ := g;dsimp only at *;obtain ⟨W, hW, fa, f_, fu⟩ := wU w n r md z s L G 38;have HX := zh fa;have HR := zh f_;have HB := zh fu;clear fa f_ fu h
 go_enter Tryz.func61, Tryz.ntmps61
 go_upto_region 1 with fail;change Code.wp _ _ _ _ ((w.alloc (.cells (zW n r md z s L G) 38)).alloc (.cells (zW 0 0 0 0 Sl.nil 0 0) 38));rw [hW];clear hW;obtain ⟨x0, x1, x2, x3, x4, x5, x6, x7, x8, x9, fI, fJ, fG, fH⟩ := HX.out.q;go_wp2_with fail;refine (HT.out _ HB.out).mono ?_;rintro e w1 ⟨⟨t, rfl, hr⟩, hb⟩;have AU := zh (hr.mono (show w.heap.size + 2 ≤ W.heap.size by have := HR.out.lt; omega));have eY := zh (HR.out.below hb);have eO := zh (zA HB.out hb);have hlr := HR.out.lt;clear x0 x1 x2 x3 x4 x5 x6 x7 x8 x9 fI fJ fG fH;clear hr HX HT HR HB;obtain ⟨er, ⟨n', r', md', z', ⟨f', L', G'⟩⟩⟩ := TG;dsimp only at *;obtain ⟨r0, r1, r2, r3, r4, r5, r6, r7, r8, r9, lK, lq, l6, mO⟩ := eY.out.q;have rf := eY.out.f;go_wp2_with fail;change bodyPost _ _ _ _ _ (pts w1 (w.heap.size + 1) (zL n' r' md' z' t L' G'));have hby := eY.out.all n' r' md' z' t L' G'
 have ea := zh (zD (B := w.heap.size) (b := (w.heap.size + 1)) (by omega) (zL n' r' md' z' t L' G') eO.out);have gw := (AU.out.pts (show w.heap.size + 1 < w.heap.size + 2 by omega) (zL n' r' md' z' t L' G')).mono (show w.heap.size ≤ w.heap.size + 2 by omega);generalize pts w1 (w.heap.size + 1) (zL n' r' md' z' t L' G') = V at *;exact aw (v := .tuple #[za n' r' md' z' t L' G', .int .i64 er]) (by simp [results, Tryz.results61, go_sem, hby.q]) rfl ⟨⟨_, rfl, gw⟩, ea.out⟩
theorem zKY (i l : Int) (r : Bool) (a : Option Addr) (n c : Nat) (L : List GP) (w : World) (h : fl w (.slice a n c) L) (hs : ∀ p ∈ L, ∀ j, j < 8 → (p.1.m.st j).length ≤ 10000) (y : GP) (hy : fp w y.2 y.1.m.st) (AX : ∀ j, j < 8 → (y.1.m.st j).length ≤ 10000) (hv : zg ⟨i, l, r, dV L⟩ = false) :
  Calls Tryz.prog 14 #[zZ i l r a n c, za y.1.num y.1.rev y.1.mode y.1.size y.2 y.1.m.live y.1.m.dR] w (CM w (yb ⟨i, l, r, dV L⟩ y.1)) := by
 have gp := zh (fun W (hb : Below w.heap.size w W) => yQ i l r a n c L W (h.below hb) hs);have HC := zh (show yb ⟨i, l, r, dV L⟩ y.1 = (xP, 1) by unfold yb; rw [hv]; rfl);rw [hv] at gp;clear h hs hv hy AX
 go_enter Tryz.func14, Tryz.ntmps14
 go_upto_region 1 with fail;change Code.wp _ _ _ _ (((w.alloc (.cells (zK i l r a n c) 27)).alloc (.cells (zW y.1.num y.1.rev y.1.mode y.1.size y.2 y.1.m.live y.1.m.dR) 38)).alloc (.cells (zK 0 0 false none 0 0) 27));obtain ⟨W, hW, fa, rK, f_, fu⟩ := qH w i l r a n c y 27 38;rw [hW];have HX := zh fa;have HG := zh rK;have HR := zh f_;have HB := zh fu;clear hW fa rK f_ fu;obtain ⟨k0, k1, k2, k3⟩ := HX.out.q;go_wp2_with fail;refine (gp.out _ HB.out).mono ?_;rintro e w1 ⟨rfl, hb⟩;replace HX := zh (HX.out.below hb);replace HR := zh (HR.out.below hb);replace HB := zh (zA HB.out hb);clear hb;clear k0 k1 k2 k3;obtain ⟨z0, z1, z2, z3⟩ := HR.out.q;have zf := HR.out.f;go_wp2_with fail;change bodyPost _ _ _ _ _ (pts w1 (w.heap.size + 2) (zJ 0 0 false none 0 0));have hby := HR.out.all 0 0 false none 0 0
 have ea := zh (zD (B := w.heap.size) (b := (w.heap.size + 2)) (by omega) (zJ 0 0 false none 0 0) HB.out);generalize pts w1 (w.heap.size + 2) (zJ 0 0 false none 0 0) = V at *;exact aw (v := .tuple #[zZ 0 0 false none 0 0, .int .i64 1]) (by simp [results, Tryz.results14, go_sem, hby.c0, hby.c1, hby.c2, hby.c3]) rfl (by rw [HC.out]; exact CM.no ea.out)
theorem zII (i l : Int) (r : Bool) (a : Option Addr) (n c : Nat) (L : List GP) (w : World) (h : fl w (.slice a n c) L) (hs : ∀ p ∈ L, ∀ j, j < 8 → (p.1.m.st j).length ≤ 10000) (y : GP) (hy : fp w y.2 y.1.m.st) (AX : ∀ j, j < 8 → (y.1.m.st j).length ≤ 10000) (hv : zg ⟨i, l, r, dV L⟩ = true) :
  Calls Tryz.prog 14 #[zZ i l r a n c, za y.1.num y.1.rev y.1.mode y.1.size y.2 y.1.m.live y.1.m.dR] w (CM w (yb ⟨i, l, r, dV L⟩ y.1)) := by
 have gp := zh (fun W (hb : Below w.heap.size w W) => yQ i l r a n c L W (h.below hb) hs);have hV := (zR _).1 hv;have fN : L.length = n := by
  obtain ⟨_, _, e, _⟩ := h.shape;injection e with _ e _; exact e.symm
 have hl : (dV L).length = n := by rw [zj, fN]
 have hn : 1 ≤ n ∧ n ≤ 8 := by have := hV.len; simp only [hl] at this; exact this
 have HC := zh (show yb ⟨i, l, r, dV L⟩ y.1 = (if qx L y.1.num n = true then (if zg ⟨i, l, r, uV (dV L) y.1⟩ = true then (⟨i, l, r, uV (dV L) y.1⟩, 0) else (xP, 1)) else (xP, 6)) by
  unfold yb; rw [ag hv, Yl L y.1.num n fN.symm])
 have IA := zh (fun k (hk : k < n) (e : (pat L k).1.num = y.1.num) => show uV (dV L) y.1 = (dV L).set k y.1 from YN hV (k := k) (by rw [hl]; exact hk) (by rw [yu]; exact e))
 have Sr := zh (show ∀ k, k < n → (pat L k).1.num = y.1.num → qx L y.1.num n = true from fun k hk e => by
  unfold qx
  rw [List.any_eq_true]
  refine ⟨pat L k, ?_, by simp [e]⟩
  rw [aS (by omega)]
  exact yd (by omega))
 have Mb := zh (show (∀ j, j < L.length → (pat L j).1.num ≠ y.1.num) → qx L y.1.num n = false from fun hh => by
  unfold qx
  rw [Bool.eq_false_iff]
  intro ht
  rw [List.any_eq_true] at ht
  obtain ⟨x, hx, e⟩ := ht
  obtain ⟨j, hj, rfl⟩ := b_ (bQ hx)
  have h1 := hh j hj
  unfold pat at h1
  rw [ax, aB hj] at h1
  exact h1 (a_ e))
 rw [hv] at gp;have ng := zh h;have JW := zh hs;have l8 := zh hy;have Bw := zh AX;have iM := zh fN;clear h hs hv hV fN hl hy AX;obtain ⟨⟨num, rev, md, sz, ⟨fs, LV, GA⟩⟩, s⟩ := y;dsimp only at *
 go_enter Tryz.func14, Tryz.ntmps14
 go_upto_region 1 with fail;change Code.wp _ _ _ _ (((w.alloc (.cells (zK i l r a n c) 27)).alloc (.cells (zW num rev md sz s LV GA) 38)).alloc (.cells (zK 0 0 false none 0 0) 27));obtain ⟨W, hW, fa, rK, f_, fu⟩ := qH w i l r a n c (⟨num, rev, md, sz, ⟨fs, LV, GA⟩⟩, s) 27 38;rw [hW];have HX := zh fa;have HG := zh rK;have HR := zh f_;have HB := zh fu;clear hW fa rK f_ fu;have Iu : w.heap.size + 3 ≤ W.heap.size := by have := HR.out.lt; omega
 dsimp only at HG;obtain ⟨k0, k1, k2, k3⟩ := HX.out.q;go_wp2_with fail;refine (gp.out _ HB.out).mono ?_;rintro e w1 ⟨rfl, hb⟩;replace HX := zh (HX.out.below hb);replace HG := zh (HG.out.below hb);replace HR := zh (HR.out.below hb);replace HB := zh (zA HB.out hb);have iB := ak Iu hb.size;clear hb gp;clear k0 k1 k2 k3;have Mc := zh (zFf a n c L (w.heap.size + 1) num rev md sz s LV GA w1 (ng.out.below HB.out) (by omega) HG.out);have k3 := HX.out.c3;go_wp2_with fail;refine Mc.out.mono ?_;rintro e w2 ⟨⟨z, rfl, hF⟩, hb⟩;replace HX := zh (HX.out.below hb);replace HG := zh (HG.out.below hb);replace HR := zh (HR.out.below hb);replace HB := zh (zA HB.out hb);have oh := ak iB hb.size;clear hb k3 Mc;rcases hF with ⟨k, hk, rfl, hkn, _⟩ | ⟨rfl, hF⟩
 ·
  have hk' : k < n := by rw [← iM.out]; exact hk
  have Ar := zh (HC.out.trans (ag (Sr.out k hk' hkn)));have YP := IA.out k hk' hkn;rw [YP] at Ar;clear HC Sr Mb IA YP hk hkn;have i1 : ¬ (k : Int) < 0 := by omega
  obtain ⟨k0, k1, k2, k3⟩ := HX.out.q;go_wp2_with fail;refine (YG i l r a n c L w2 (ng.out.below HB.out) JW.out (by omega)).mono ?_;rintro e w3 hq;obtain ⟨⟨a1, c1, M, rfl, ho, hg⟩, hb⟩ := hq;have o8 := zh (ho.lower oh);have jW := zh hg;clear k0 k1 k2 k3 ho hg;replace HX := zh (HX.out.below hb);replace HG := zh (HG.out.below hb);replace HR := zh (HR.out.below hb);replace HB := zh (zA HB.out hb);have FT := ak oh hb.size;clear hb;obtain ⟨k0, k1, k2, k3⟩ := HX.out.q;have kf := HX.out.f;go_upto_region 7 with fail;clear k0 k1 k2 k3 kf;obtain ⟨g, rfl, hgB, nF⟩ := uJ o8.out.row (by omega);have gZ := zh (HX.out.all i l r (some ⟨g, 0, none⟩) n c1);have E3 := zh (HG.out.ek (c := w.heap.size) (by omega) (zJ i l r (some ⟨g, 0, none⟩) n c1));have jF := zh (HR.out.ek (d := w.heap.size) (by omega) (zJ i l r (some ⟨g, 0, none⟩) n c1))
  have fM := zh (zD (B := w.heap.size) (b := w.heap.size) (ai _) (zJ i l r (some ⟨g, 0, none⟩) n c1) HB.out);have iy := zh (o8.out.pts (b := w.heap.size) (by omega) (zJ i l r (some ⟨g, 0, none⟩) n c1));have pF : w.heap.size + 3 ≤ (pts w3 w.heap.size (zJ i l r (some ⟨g, 0, none⟩) n c1)).heap.size := by rw [wC]; exact FT
  clear HX HG HR HB o8;change Code.wp _ _ _ _ (pts w3 w.heap.size (zJ i l r (some ⟨g, 0, none⟩) n c1));generalize pts w3 w.heap.size (zJ i l r (some ⟨g, 0, none⟩) n c1) = w4 at *;have Ej := zh (fun W (hb : Below w4.heap.size w4 W) => qd ⟨num, rev, md, sz, ⟨fs, LV, GA⟩⟩ s W (l8.out.below (zA fM.out hb)) Bw.out);dsimp only at Ej;refine yO [eP (.pointer (some ⟨w.heap.size, 3, none⟩)), eP (.slice (some ⟨g, 0, none⟩) n c1), eP (.int .i64 (k : Int)), eP (za num rev md sz s LV GA), YF (w.heap.size + 3) ⟨num, rev, md, sz, ⟨fs, LV, GA⟩⟩] [] 31 (by kernel_rfl) (by kernel_rfl) (by rfl) (by kernel_rfl) (fun f => by simp [fq, zX, Act.put]; exact rfl) ?_ ?_
  ·
   refine ⟨?_, ?_, ?_, ?_, ?_, trivial⟩
   ·
    intro f w1 hb hd;clear hd;dsimp only;go_wp2_with fail;exact pS rfl (by simp)
   ·
    intro f w1 hb hd;have d0 : f 0 = (.pointer (some ⟨w.heap.size, 3, none⟩)) := hd 0 (by kernel_rfl);clear hd;dsimp only;rw [d0];have q3 := (gZ.out.below hb).c3;go_wp2_with fail;exact pS rfl (by simp)
   ·
    intro f w1 hb hd;clear hd;dsimp only;go_wp2_with fail;exact pS rfl (by simp)
   ·
    intro f w1 hb hd;clear hd;dsimp only;have zo := E3.out.below hb;obtain ⟨q0, q1, q2, q3, q4, q5, q6, q7, q8, q9, AY, AZ, A0, A1⟩ := zo.q;clear zo;go_wp2_with fail;exact pS rfl (by simp)
   intro f w1 hb hd;have d3 : f 3 = (za num rev md sz s LV GA) := hd 3 (by kernel_rfl);clear hd;dsimp only;rw [d3];go_wp2_with fail;refine (Ej.out w1 hb).mono ?_;rintro e w9 ⟨⟨s9, rfl, AQ⟩, fP⟩;have i_ := zh (AQ.mono (ak pF hb.size));clear AQ;go_wp2_with fail;exact ⟨rfl, fP, fun t ht => by injection ht with ht; subst ht; exact ⟨⟨s9, rfl, i_.out⟩, fun h => by simp at h⟩⟩
  intro f w5 hb hd jc;clear jc;have d1 : f 1 = .slice (some ⟨g, 0, none⟩) n c1 := hd 1 (show 1 < 5 by decide);have d2 : f 2 = .int .i64 (k : Int) := hd 2 (show 2 < 5 by decide);obtain ⟨s4, d4, Fb⟩ := show ∃ s, f 4 = za num rev md sz s LV GA ∧ eS w5 (w.heap.size + 3) s fs from hd 4 (show 4 < 5 by decide);clear hd
  try dsimp only
  rw [d1, d2, d4];clear d1 d2 d4;generalize f 0 = z0;generalize f 3 = z3;clear f;have Ff := iy.out.keep hb;have Sn := zh ((Ox Ff.row Ff.len hk').there (wO Ff.row));have jE := zh (Ff.set k hk' ((⟨num, rev, md, sz, ⟨fs, LV, GA⟩⟩ : Gn), s4) Fb);dsimp only at jE;have fh := zh ((gZ.out.below hb).ek (d := g) (by omega) (o7 (k * 14) num rev md sz s4 LV GA));have jV := zh ((jF.out.below hb).ek (d := g) (by omega) (o7 (k * 14) num rev md sz s4 LV GA));have gj := zh (zD (B := w.heap.size) (b := g) (by omega) (o7 (k * 14) num rev md sz s4 LV GA) (zA fM.out hb));have FV := zh (show dV (M.set k ((⟨num, rev, md, sz, ⟨fs, LV, GA⟩⟩ : Gn), s4)) = (dV L).set k (⟨num, rev, md, sz, ⟨fs, LV, GA⟩⟩ : Gn) from by rw [Sm, jW.out])
  have YQ := zh (show ∀ p ∈ M.set k ((⟨num, rev, md, sz, ⟨fs, LV, GA⟩⟩ : Gn), s4), ∀ j, j < 8 → (p.1.m.st j).length ≤ 10000 from fun p hp j hj => by
   rcases List.mem_or_eq_of_mem_set hp with hp | rfl
   ·
    have h1 : p.1 ∈ dV L := jW.out ▸ cV hp
    obtain ⟨q, hq, e⟩ := List.mem_map.1 h1
    rw [← e]; exact JW.out q hq j hj
   exact Bw.out j hj)
  clear Ff Fb hb Ej gZ E3 jF fM iy jW;change wpList _ _ _ (_ :: _ :: []) _ _;go_wp2_with (first | ((with_reducible refine wpList_store_mid ?_ 38 (.tmp 25) (.tmp 24) ?_ g (k * 14) (zW num rev md sz s4 LV GA) ?_ ?_ ?_ ?_ ?_ ?_); rfl; rfl; rfl; rfl; exact Sn.out; exact Se; exact kt _ _ _ _ _ _ _; rw [kV]; generalize (pts w5 g (o7 (k * 14) num rev md sz s4 LV GA)) = w6 at *; have k0 := fh.out.c0; have k1 := fh.out.c1; have k2 := fh.out.c2; have k3 := fh.out.c3));refine (yQ i l r (some ⟨g, 0, none⟩) n c1 _ w6 jE.out.rd YQ.out).mono ?_;rintro e w7 ⟨rfl, hb⟩;rw [FV.out];replace fh := zh (fh.out.below hb);replace jV := zh (jV.out.below hb);replace gj := zh (zA gj.out hb);replace jE := zh (jE.out.keep hb);clear hb k0 k1 k2 k3 YQ;generalize Iz : zg ⟨i, l, r, (dV L).set k (⟨num, rev, md, sz, ⟨fs, LV, GA⟩⟩ : Gn)⟩ = bv at *
  cases bv
  ·
   have HC := zh (Ar.out.trans (ah (by decide)));clear Ar Iz;obtain ⟨z0, z1, z2, z3⟩ := jV.out.q;have zf := jV.out.f;go_wp2_with fail;change bodyPost _ _ _ _ _ (pts w7 (w.heap.size + 2) (zJ 0 0 false none 0 0));have hby := jV.out.all 0 0 false none 0 0;have ea := zh (zD (B := w.heap.size) (b := (w.heap.size + 2)) (by omega) (zJ 0 0 false none 0 0) gj.out);generalize pts w7 (w.heap.size + 2) (zJ 0 0 false none 0 0) = V at *;exact aw (v := .tuple #[zZ 0 0 false none 0 0, .int .i64 1]) (by simp [results, Tryz.results14, go_sem, hby.c0, hby.c1, hby.c2, hby.c3]) rfl (by rw [HC.out]; exact CM.no ea.out)
  have HC := zh (Ar.out.trans (ag rfl));clear Ar Iz;obtain ⟨k0, k1, k2, k3⟩ := fh.out.q;obtain ⟨z0, z1, z2, z3⟩ := jV.out.q;have zf := jV.out.f;go_wp2_with fail;change bodyPost _ _ _ _ _ (pts w7 (w.heap.size + 2) (zJ i l r (some ⟨g, 0, none⟩) n c1));have BZ := zh (jE.out.pts (b := w.heap.size + 2) (by omega) (zJ i l r (some ⟨g, 0, none⟩) n c1));have hby := jV.out.all i l r (some ⟨g, 0, none⟩) n c1;have ea := zh (zD (B := w.heap.size) (b := (w.heap.size + 2)) (by omega) (zJ i l r (some ⟨g, 0, none⟩) n c1) gj.out);generalize pts w7 (w.heap.size + 2) (zJ i l r (some ⟨g, 0, none⟩) n c1) = V at *;exact aw (v := .tuple #[zZ i l r (some ⟨g, 0, none⟩) n c1, .int .i64 0]) (by simp [results, Tryz.results14, go_sem, hby.c0, hby.c1, hby.c2, hby.c3]) rfl (by rw [HC.out]; exact ⟨⟨_, n, c1, _, rfl, BZ.out.lower (by omega), FV.out⟩, ea.out⟩)
 have Ar := zh (HC.out.trans (ah (by rw [Mb.out hF]; decide)));clear HC Sr Mb IA hF;obtain ⟨z0, z1, z2, z3⟩ := HR.out.q;have zf := HR.out.f;go_wp2_with fail;change bodyPost _ _ _ _ _ (pts w2 (w.heap.size + 2) (zJ 0 0 false none 0 0));have hby := HR.out.all 0 0 false none 0 0;have ea := zh (zD (B := w.heap.size) (b := (w.heap.size + 2)) (by omega) (zJ 0 0 false none 0 0) HB.out);generalize pts w2 (w.heap.size + 2) (zJ 0 0 false none 0 0) = V at *;exact aw (v := .tuple #[zZ 0 0 false none 0 0, .int .i64 6]) (by simp [results, Tryz.results14, go_sem, hby.c0, hby.c1, hby.c2, hby.c3]) rfl (by rw [Ar.out]; exact CM.no ea.out)
theorem YR (i l : Int) (r : Bool) (a : Option Addr) (n c : Nat) (L : List GP) (w : World) (h : fl w (.slice a n c) L) (hs : ∀ p ∈ L, ∀ j, j < 8 → (p.1.m.st j).length ≤ 10000) (y : GP) (hy : fp w y.2 y.1.m.st) (AX : ∀ j, j < 8 → (y.1.m.st j).length ≤ 10000) : Calls Tryz.prog 14 #[zZ i l r a n c, za y.1.num y.1.rev y.1.mode y.1.size y.2 y.1.m.live y.1.m.dR] w (CM w (yb ⟨i, l, r, dV L⟩ y.1)) := by
 cases hv : zg ⟨i, l, r, dV L⟩
 ·
  exact zKY i l r a n c L w h hs y hy AX hv
 exact zII i l r a n c L w h hs y hy AX hv
def Dw (z : Int) : Value := .int .i64 z
def lr (w : World) (B : Nat) (v : Value) (l : List Int) : Prop := w.ownsRow B 3 1 v l.length (l.map Dw)
theorem YT (l : List Gn) (key : Int) : ∀ n, (kF l key n).length ≤ n
 | 0 => au _
 | n + 1 => by
  have := YT l key n;unfold kF;rw [aA]
  cases ze (eH l n).m key <;> simp <;> omega
end Go.Proofs.YtcgfilmmokmdjaaGreat
namespace Go.Proofs.YtcgfilmmokmdjaaGreat
open Go.RowKit
def ix (W : World) (B : Nat) (T : TypeId) (sz : Nat) (v : Value) (n : Nat) (xs : List Value) : Prop := Rd W sz v n xs ∧ ∀ g, v.ownBlock = some g → xs = [] ∨ g < B ∨ ∃ c f, W.heap[g]? = some (.cells c T f)
structure iI (W W' : World) (B b : Nat) (T : TypeId) : Prop where
 lo : B ≤ b
 ty : ∃ c f, W.heap[b]? = some (.cells c T f)
 blk : ∀ k, k < W.heap.size → k ≠ b → W'.heap[k]? = W.heap[k]?
theorem iI.pts {W : World} {B b : Nat} {T : TypeId} (hB : B ≤ b) (ht : ∃ c f, W.heap[b]? = some (.cells c T f)) : ∀ (vs : List (Nat × Value)), iI W (Go.Proofs.YtcgfilmmokmdjaaGreat.pts W b vs) B b T := by
 have key : ∀ (vs : List (Nat × Value)) (W : World) (k : Nat), k ≠ b → (Go.Proofs.YtcgfilmmokmdjaaGreat.pts W b vs).heap[k]? = W.heap[k]? := by
  intro vs
  induction vs with
  | nil => intro W k _; rfl
  | cons p r ih =>
   intro W k hk;obtain ⟨i, u⟩ := p
   show (Go.Proofs.YtcgfilmmokmdjaaGreat.pts (W.setCell ⟨b, i, none⟩ u) b r).heap[k]? = _
   rw [ih _ k hk];exact Below.heap_setCell W ⟨b, i, none⟩ u k hk
 exact fun vs => ⟨hB, ht, fun k _ hk => key vs W k hk⟩
theorem iI.grown {W W' : World} {B b : Nat} {T : TypeId} {row : Option Nat} (hB : B ≤ b) (ht : ∃ c f, W.heap[b]? = some (.cells c T f)) (hg : W.grownBy W' row) (hr : row = none ∨ row = some b) : iI W W' B b T :=
 ⟨hB, ht, fun k hk hne => hg.block k hk (fun e => by rcases hr with h | h <;> rw [h] at e <;> cases e; exact hne rfl)⟩
theorem ix.below {W W' : World} {B : Nat} {T : TypeId} {sz : Nat} {v : Value} {n : Nat} {xs : List Value} (h : ix W B T sz v n xs) (hb : Below W.heap.size W W') : ix W' B T sz v n xs :=
 ⟨h.1.below hb, fun g hg => (h.2 g hg).imp id fun h => h.imp id fun ⟨c, f, h⟩ => ⟨c, f, by rw [hb.block g (Array.getElem?_eq_some_iff.1 h).1]; exact h⟩⟩
theorem ix.jw {W W' : World} {B b : Nat} {T T' : TypeId} {sz : Nat} {v : Value} {n : Nat} {xs : List Value} (h : ix W B T sz v n xs) (ho : iI W W' B b T') (hne : T ≠ T') : ix W' B T sz v n xs := by
 obtain ⟨⟨h0, a, cap, e, h1, h2, h3, h4⟩, h5⟩ := h;subst e;have key : ∀ g, a.map (·.block) = some g → xs ≠ [] → g ≠ b := fun g hg hx e => by
  subst e;have Hd : (Value.slice a n cap).ownBlock = some g := by
   cases a with
   | none => cases hg
   | some y => simpa [Value.ownBlock] using hg
  rcases h5 g Hd with h | h | ⟨c, f, h⟩
  ·
   exact hx h
  ·
   have := ho.lo; omega
  obtain ⟨c', f', h'⟩ := ho.ty;rw [h] at h';injection h' with h';injection h' with _ h';exact hne h'
 refine ⟨⟨h0, a, cap, rfl, h1, h2, h3, fun hp => ?_⟩, fun g hg => ?_⟩
 ·
  obtain ⟨b', off, e, hc⟩ := h4 hp;refine ⟨b', off, e, fun j u hj => ?_⟩;have YU := hc j u hj;have hlt := cH W _ YU;have hn := key b' (by rw [e]; rfl) (fun e => by rw [e] at hp; cases hp);exact (World.cell?_of_block (ho.blk b' hlt hn)).trans YU
 by_cases hx : xs = []
 ·
  exact .inl hx
 have hg2 : a.map (·.block) = some g := by
  cases a with
  | none => cases hg
  | some y => simpa [Value.ownBlock] using hg
 rcases h5 g hg with h | h | ⟨c, f, h⟩
 ·
  exact .inl h
 ·
  exact .inr (.inl h)
 exact .inr (.inr ⟨c, f, by rw [ho.blk g (Array.getElem?_eq_some_iff.1 h).1 (key g hg2 hx)]; exact h⟩)
theorem ix.old {W : World} {B : Nat} {T : TypeId} {sz : Nat} {v : Value} {n : Nat} {xs : List Value} (h : Rd W sz v n xs) (hB : W.heap.size ≤ B) : ix W B T sz v n xs := by
 refine ⟨h, fun g hg => ?_⟩;obtain ⟨h0, a, cap, e, h1, h2, h3, h4⟩ := h
 by_cases hx : xs = []
 ·
  exact .inl hx
 right; left
 have hp : 0 < xs.length := by
  cases xs with
  | nil => exact absurd rfl hx
  | cons x r => simp
 obtain ⟨b', off, e', hc⟩ := h4 hp;subst e e';have Hd : b' = g := by simpa [Value.ownBlock] using hg
 subst Hd;have := cH W _ (hc 0 _ (aB hp));exact cR this hB
theorem ix.own {W : World} {B B' : Nat} {T : TypeId} {sz : Nat} {v : Value} {n : Nat} {xs : List Value} (h : W.ownsRow B' T sz v n xs) : ix W B T sz v n xs :=
 ⟨zr h, fun g hg => .inr (.inr (Lib.ownsRow_kind h g hg))⟩
theorem zKK {W W' : World} {B B' b : Nat} {T T' : TypeId} {sz n : Nat} {v : Value} {xs : List Value} (h : W.ownsRow B' T sz v n xs) (ho : iI W W' B b T') (hne : v.ownBlock ≠ some b) : W'.ownsRow B' T sz v n xs := by
 obtain ⟨h1, h2⟩ := h;refine ⟨h1, ?_⟩;rcases h2 with h2 | ⟨g, cap, cur, e, hb, hg, h3⟩
 ·
  exact .inl h2
 refine .inr ⟨g, cap, cur, e, hb, ?_, h3⟩;rw [ho.blk g (Array.getElem?_eq_some_iff.1 hg).1 (fun e2 => hne (by rw [e, e2]; rfl))];exact hg
theorem xh {W W' : World} {B B' b : Nat} {T T' : TypeId} {sz n : Nat} {v : Value} {xs : List Value} (h : W.ownsRow B' T sz v n xs) (ho : iI W W' B b T') (hne : T ≠ T') : W'.ownsRow B' T sz v n xs :=
 zKK h ho fun e => by
  obtain ⟨c, f, h1⟩ := Lib.ownsRow_kind h b e;obtain ⟨c', f', h2⟩ := ho.ty;rw [h1] at h2;injection h2 with h2;injection h2 with _ h2;exact hne h2
/-! ### iV -/
def Cf (W : World) (B : Nat) (s : Sl) (f : Nat → List It) : Prop := ∀ i, i < 8 → ix W B 49 4 (s.v i) (f i).length (zU (f i))
theorem Cf.rd {W : World} {B : Nat} {s : Sl} {f : Nat → List It} (h : Cf W B s f) : fp W s f := fun i hi => yj (h i hi).1
theorem Cf.below {W W' : World} {B : Nat} {s : Sl} {f : Nat → List It} (h : Cf W B s f) (hb : Below W.heap.size W W') : Cf W' B s f := fun i hi => (h i hi).below hb
structure fV (W : World) (B : Nat) (v : Value) (L : List GP) : Prop where
 r : ix W B 38 14 v L.length (L.flatMap gP)
 m : ∀ p ∈ L, Cf W B p.2 p.1.m.st
theorem fV.rd {W : World} {B : Nat} {v : Value} {L : List GP} (h : fV W B v L) : fl W v L := ⟨⟨fun x _ => qz x, h.r.1⟩, fun p hp => (h.m p hp).rd⟩
theorem fV.below {W W' : World} {B : Nat} {v : Value} {L : List GP} (h : fV W B v L) (hb : Below W.heap.size W W') : fV W' B v L := ⟨h.r.below hb, fun p hp => (h.m p hp).below hb⟩
theorem fV.jw {W W' : World} {B b : Nat} {T' : TypeId} {v : Value} {L : List GP} (h : fV W B v L) (ho : iI W W' B b T') (h1 : 38 ≠ T') (h2 : 49 ≠ T') : fV W' B v L := ⟨h.r.jw ho h1, fun p hp i hi => (h.m p hp i hi).jw ho h2⟩
theorem fV.old {W : World} {B : Nat} {v : Value} {L : List GP} (h : fl W v L) (hB : W.heap.size ≤ B) : fV W B v L := ⟨ix.old h.r.2 hB, fun p hp i hi => ix.old (tK (h.m p hp i hi)) hB⟩
theorem fV.own {W : World} {B B' n : Nat} {v : Value} {L : List GP} (h : gy W B' v n L) : fV W B v L := ⟨by have := h.row; rw [h.len] at this; exact ix.own this, fun p hp i hi => ix.own (h.m p hp i hi)⟩
/-! ### Requests -/
def nu (p : Rq × Value) : List Value := [.int .i64 p.1.tk, .int .i64 p.1.kind, .int .u64 (p.1.key : Int), .int .u32 (p.1.ck : Int), p.2]
theorem vC (p : Rq × Value) : (nu p).length = 5 := rfl
abbrev CN (tk kind key ck : Int) (d : Value) : Value := .agg #[.int .i64 tk, .int .i64 kind, .int .u64 key, .int .u32 ck, d]
structure oz (w : World) (v : Value) (qs : List (Rq × Value)) : Prop where
 row : iu 5 nu w v qs
 dat : ∀ p ∈ qs, oD w p.2 p.1.data
theorem oz.below {w w' : World} {v : Value} {qs : List (Rq × Value)} (h : oz w v qs) (hb : Below w.heap.size w w') : oz w' v qs := ⟨iu.below h.row hb, fun p hp => ik.below (h.dat p hp) hb⟩
def jX (l : List (Rq × Value)) (i : Nat) : Rq × Value := l.getD i (JV, .slice none 0 0)
theorem kQ {l : List (Rq × Value)} {i : Nat} (h : i < l.length) : jX l i ∈ l := by
 unfold jX;rw [ax, aB h]; exact bJ h
theorem oz.shape {w : World} {v : Value} {qs : List (Rq × Value)} (h : oz w v qs) : ∃ a cap, v = .slice a qs.length cap ∧ qs.length ≤ cap ∧ cap ≤ maxLen := by
 obtain ⟨a, cap, h1, h2, h3, _⟩ := iu.shape h.row (by decide) (JV, .slice none 0 0);exact ⟨a, cap, h1, h2, h3⟩
theorem oz.at {w : World} {a : Option Addr} {n cap : Nat} {qs : List (Rq × Value)} (h : oz w (.slice a n cap) qs) {j : Nat} (hj : j < n) : ∃ b off, a = some ⟨b, off, none⟩ ∧ oD w (jX qs j).2 (jX qs j).1.data ∧
  w.cell? ⟨b, off + j * 5, none⟩ = some (.int .i64 (jX qs j).1.tk) ∧ w.cell? ⟨b, off + j * 5 + 1, none⟩ = some (.int .i64 (jX qs j).1.kind) ∧ w.cell? ⟨b, off + j * 5 + 2, none⟩ = some (.int .u64 ((jX qs j).1.key : Int)) ∧
  w.cell? ⟨b, off + j * 5 + 3, none⟩ = some (.int .u32 ((jX qs j).1.ck : Int)) ∧ w.cell? ⟨b, off + j * 5 + 4, none⟩ = some (jX qs j).2 := by
 obtain ⟨a', cap', e, h2, h3, _, h5⟩ := iu.shape h.row (by decide) (JV, .slice none 0 0);injection e with e1 e2 e3;subst e1 e2 e3;obtain ⟨b, off, e, hc⟩ := h5 (by omega);refine ⟨b, off, e, h.dat _ (kQ hj), ?_, hc j hj 1 _ rfl, hc j hj 2 _ rfl, hc j hj 3 _ rfl, hc j hj 4 _ rfl⟩;have := hc j hj 0 _ rfl; rwa [bp] at this
/-! ### EP of the call's own, their bytes read -/
def gu (W : World) (B : Nat) (v : Value) (d : List UInt8) : Prop := ix W B 5 1 v d.length (d.map vh)
theorem gu.rd {W : World} {B : Nat} {v : Value} {d : List UInt8} (h : gu W B v d) : oD W v d := h.1
structure fO (W : World) (B : Nat) (v : Value) (es : List (Nd × Value)) : Prop where
 row : W.ownsRow B 56 4 v es.length (wM es)
 dat : ∀ p ∈ es, gu W B p.2 p.1.data
theorem fO.below {W W' : World} {B : Nat} {v : Value} {es : List (Nd × Value)} (h : fO W B v es) (hb : Below W.heap.size W W') : fO W' B v es := ⟨zH h.row hb, fun p hp => (h.dat p hp).below hb⟩
theorem fO.jw {W W' : World} {B b : Nat} {T' : TypeId} {v : Value} {es : List (Nd × Value)} (h : fO W B v es) (ho : iI W W' B b T') (h1 : 56 ≠ T') (h2 : 5 ≠ T') : fO W' B v es := ⟨xh h.row ho h1, fun p hp => (h.dat p hp).jw ho h2⟩
/-! ### Dx of the call's own -/
abbrev KP := Int × Value × List Int
def jQ (p : KP) : List Value := [.int .i64 p.1, p.2.1]
theorem vn (p : KP) : (jQ p).length = 2 := rfl
def gT (l : List KP) : List Kl := l.map fun p => (p.1, p.2.2)
def jh (l : List KP) (i : Nat) : KP := l.getD i (0, .slice none 0 0, [])
structure gD (W : World) (B : Nat) (v : Value) (ks : List KP) : Prop where
 row : W.ownsRow B 89 2 v ks.length (ks.flatMap jQ)
 keys : ∀ p ∈ ks, W.ownsRow B 24 1 p.2.1 p.2.2.length (p.2.2.map Jy)
 apart : ks.Pairwise fun p q => p.2.1.ownBlock = none ∨ p.2.1.ownBlock ≠ q.2.1.ownBlock
theorem gD.below {W W' : World} {B : Nat} {v : Value} {ks : List KP} (h : gD W B v ks) (hb : Below W.heap.size W W') : gD W' B v ks := ⟨zH h.row hb, fun p hp => zH (h.keys p hp) hb, h.apart⟩
theorem gD.jw {W W' : World} {B b : Nat} {T' : TypeId} {v : Value} {ks : List KP} (h : gD W B v ks) (ho : iI W W' B b T') (h1 : 89 ≠ T') (h2 : 24 ≠ T') : gD W' B v ks := ⟨xh h.row ho h1, fun p hp => xh (h.keys p hp) ho h2, h.apart⟩
/-! ### The nP -/
abbrev tZ (i l : Int) (r : Bool) (ga : Option Addr) (gn gc : Nat) (ep : Bool) (kv nv rv : Value) (l9 : Int) : Array Value := #[.int .i64 i, .int .i64 l, .bool r, .slice ga gn gc, .bool ep, .int .i64 0, kv, nv, rv, .int .i64 l9]
structure lD (W : World) (B : Nat) (P : fg) (ga : Option Addr) (gn gc : Nat) (L : List GP) (kv : Value) (ks : List KP) (nv : Value) (es : List (Nd × Value)) (rv : Value) : Prop where
 g : fV W B (.slice ga gn gc) L
 gg : dV L = P.t.dP
 k : gD W B kv ks
 kk : gT ks = P.ei
 n : fO W B nv es
 nn : es.map (·.1) = P.needs
 r : W.ownsRow B 39 1 rv P.res.length (P.res.map Dw)
section
variable {W W' : World} {B b : Nat} {P : fg} {ga : Option Addr} {gn gc : Nat} {L : List GP} {kv : Value} {ks : List KP} {nv : Value} {es : List (Nd × Value)} {rv : Value}
theorem lD.below (h : lD W B P ga gn gc L kv ks nv es rv) (hb : Below W.heap.size W W') : lD W' B P ga gn gc L kv ks nv es rv :=
 ⟨h.g.below hb, h.gg, h.k.below hb, h.kk, h.n.below hb, h.nn, zH h.r hb⟩
theorem lD.jw (h : lD W B P ga gn gc L kv ks nv es rv) (ho : iI W W' B b 145) : lD W' B P ga gn gc L kv ks nv es rv :=
 ⟨h.g.jw ho (by decide) (by decide), h.gg, h.k.jw ho (by decide) (by decide), h.kk, h.n.jw ho (by decide) (by decide), h.nn, xh h.r ho (by decide)⟩
end
abbrev oI (W : World) (b : Nat) (i l : Int) (r : Bool) (ga : Option Addr) (gn gc : Nat) (ep : Bool) (kv nv rv : Value) (l9 : Int) : Prop := dQ W b (tZ i l r ga gn gc ep kv nv rv l9) 145
def pW (W : World) (B b : Nat) (P : fg) : Prop := ∃ ga gn gc L kv ks nv es rv, B ≤ b ∧ oI W b P.t.id P.t.lim P.t.ro ga gn gc P.ep kv nv rv P.bytes ∧ lD W B P ga gn gc L kv ks nv es rv
theorem pW.below {W W' : World} {B b : Nat} {P : fg} (h : pW W B b P) (hb : Below W.heap.size W W') : pW W' B b P := by
 obtain ⟨ga, gn, gc, L, kv, ks, nv, es, rv, h1, h2, h3⟩ := h;exact ⟨ga, gn, gc, L, kv, ks, nv, es, rv, h1, h2.below hb, h3.below hb⟩
end Go.Proofs.YtcgfilmmokmdjaaGreat
namespace Go.Proofs.YtcgfilmmokmdjaaGreat
theorem zKz {l : List Kl} {i : Nat} (h : i < l.length) : l[i]? = some (yH l i) := by
 unfold yH; rw [ax, aB h]; rfl
theorem uQ {l : List Kl} {i : Nat} (h : i < l.length) : yH l i ∈ l := by
 unfold yH;rw [ax, aB h]; exact bJ h
theorem yx {l : List Kl} {i : Nat} (h : i < l.length) : l[i] = yH l i := by
 unfold yH; rw [ax, aB h]; rfl
theorem kj {l : List Kl} (ha : l.Pairwise fun a b => a.1 < b.1) {i j : Nat} (hij : i < j) (hj : j < l.length) : (yH l i).1 < (yH l j).1 := by
 have := List.pairwise_iff_getElem.1 ha i j (by omega) hj hij;rw [yx, yx] at this;exact this
theorem zLL {l : List Kl} {num : Int} {i : Nat} (hi : i ≤ l.length) (h1 : ∀ k, i = k + 1 → (yH l k).1 < num) (h2 : i < l.length → ¬ (yH l i).1 < num) (ha : l.Pairwise fun a b => a.1 < b.1) : fE l num = i := by
 have hlo : ∀ j, j < i → (yH l j).1 < num := fun j hj => by
  obtain ⟨k, rfl⟩ : ∃ k, i = k + 1 := ⟨i - 1, by omega⟩
  have h3 := h1 k rfl
  by_cases e : j = k
  ·
   rw [e]; exact h3
  have := kj ha (show j < k by omega) (by omega); omega
 unfold fE
 by_cases hin : i < l.length
 ·
  rw [(List.findIdx?_eq_some_iff_getElem (p := fun k : Kl => decide (num ≤ k.1)) (i := i)).2 ⟨hin, by rw [yx hin]; have := h2 hin; simp; omega, fun j hj => by rw [yx (show j < l.length by omega)]; have := hlo j hj; simp; omega⟩]
  rfl
 have e : i = l.length := by omega
 rw [List.findIdx?_eq_none_iff.2 fun x hx => by
  obtain ⟨j, hj, rfl⟩ := b_ hx
  rw [yx hj]
  have := hlo j (by omega)
  simp; omega]
 exact e.symm
theorem Ss (l : List Kl) (num : Int) : fE l num ≤ l.length := by
 unfold fE
 cases h : l.findIdx? fun k => decide (num ≤ k.1) with
 | none => exact ai _
 | some i => have := (List.findIdx?_eq_some_iff_getElem.1 h).1; exact bN this
theorem YV (l : List Kl) (num : Int) {j : Nat} (h : j < fE l num) : (yH l j).1 < num := by
 unfold fE at h
 cases e : l.findIdx? fun k => decide (num ≤ k.1) with
 | none =>
  rw [e] at h;have h : j < l.length := h;have := List.findIdx?_eq_none_iff.1 e _ (uQ h)
  simpa using this
 | some i =>
  rw [e] at h;have h : j < i := h;obtain ⟨h1, h2, h3⟩ := List.findIdx?_eq_some_iff_getElem.1 e;have := h3 j h;rw [yx (show j < l.length by omega)] at this
  simpa using this
theorem YW (l : List Kl) (num : Int) (h : fE l num < l.length) : num ≤ (yH l (fE l num)).1 := by
 have h0 := h;unfold fE at h0
 cases e : l.findIdx? fun k => decide (num ≤ k.1) with
 | none => rw [e] at h0; exact absurd h0 (Nat.lt_irrefl _)
 | some i =>
  obtain ⟨h1, h2, _⟩ := List.findIdx?_eq_some_iff_getElem.1 e;have e2 : fE l num = i := by unfold fE; rw [e]; rfl
  rw [e2, ← yx h1]
  simpa using h2
structure nQ (M : Nat) (l : List Kl) : Prop where
 A2 : l.Pairwise fun a b => a.1 < b.1
 num : ∀ x ∈ l, 1 ≤ x.1 ∧ x.1 ≤ 8
 len : ∀ x ∈ l, x.2.length ≤ M
theorem nQ.mono {M M' : Nat} {l : List Kl} (h : nQ M l) (hm : M ≤ M') : nQ M' l := ⟨h.A2, h.num, fun x hx => ak (h.len x hx) hm⟩
theorem nQ.le8 {M : Nat} {l : List Kl} (h : nQ M l) : l.length ≤ 8 := by
 have key : ∀ j, j < l.length → (j : Int) + 1 ≤ (yH l j).1 := by
  intro j
  induction j with
  | zero => intro hj; have := (h.num _ (uQ hj)).1; omega
  | succ j ih =>
   intro hj;have h1 := ih (by omega);have h2 := kj h.A2 (show j < j + 1 by omega) hj;omega
 by_cases e : 0 < l.length
 ·
  have h1 := key (l.length - 1) (by omega);have h2 := (h.num _ (uQ (show l.length - 1 < l.length by omega))).2;omega
 omega
theorem nQ.nil (M : Nat) : nQ M [] := ⟨List.Pairwise.nil, (fun x hx => by cases hx), (fun x hx => by cases hx)⟩
theorem kG {l : List Kl} {num key : Int} (h : fE l num < l.length ∧ (yH l (fE l num)).1 = num) : kM l num key = l.set (fE l num) (num, (yH l (fE l num)).2 ++ [key]) := by unfold kM; rw [ag h]
theorem tt {l : List Kl} {num key : Int} (h : ¬ (fE l num < l.length ∧ (yH l (fE l num)).1 = num)) : kM l num key = l.take (fE l num) ++ (num, [key]) :: l.drop (fE l num) := by unfold kM; rw [ah h]
theorem nQ.ins {M : Nat} {l : List Kl} (h : nQ M l) {num : Int} (hn : 1 ≤ num ∧ num ≤ 8) (key : Int) : nQ (M + 1) (kM l num key) := by
 by_cases hh : fE l num < l.length ∧ (yH l (fE l num)).1 = num
 ·
  rw [kG hh];refine ⟨?_, fun x hx => ?_, fun x hx => ?_⟩
  ·
   rw [List.pairwise_iff_getElem];intro i j hi hj hij;rw [bd] at hi hj;have := List.pairwise_iff_getElem.1 h.A2 i j hi hj hij;rw [List.getElem_set, List.getElem_set];have e : l[fE l num] = yH l (fE l num) := yx hh.1
   split
   ·
    rename_i e1
    split
    ·
     omega
    subst e1
    show num < l[j].1
    rw [e, hh.2] at this;exact this
   split
   ·
    rename_i e1 e2;subst e2
    show l[i].1 < num
    rw [e, hh.2] at this;exact this
   exact this
  ·
   rcases List.mem_or_eq_of_mem_set hx with hx | rfl
   ·
    exact h.num x hx
   exact hn
  rcases List.mem_or_eq_of_mem_set hx with hx | rfl
  ·
   exact Nat.le_succ_of_le (h.len x hx)
  have := h.len _ (uQ hh.1)
  show ((yH l (fE l num)).2 ++ [key]).length ≤ _
  rw [aA];exact Nat.succ_le_succ this
 rw [tt hh];have hle := Ss l num;have hlo := fun j (hj : j < fE l num) => YV l num hj
 have J3 : ∀ x ∈ l.drop (fE l num), num < x.1 := fun x hx => by
  obtain ⟨j, hj, rfl⟩ := b_ hx;rw [aK] at hj;rw [List.getElem_drop, yx (show fE l num + j < l.length by omega)];have h1 := YW l num (by omega);have h2 : (yH l (fE l num)).1 ≠ num := fun e => hh ⟨by omega, e⟩
  by_cases e : j = 0
  ·
   subst e; rw [bp]; omega
  have := kj h.A2 (show fE l num < fE l num + j by omega) (by omega); omega
 have n5 : ∀ x ∈ l.take (fE l num), x.1 < num := fun x hx => by
  obtain ⟨j, hj, rfl⟩ := b_ hx;rw [ay] at hj;rw [List.getElem_take, yx (show j < l.length by omega)];exact hlo j (by omega)
 refine ⟨?_, fun x hx => ?_, fun x hx => ?_⟩
 ·
  rw [List.pairwise_append, dr];refine ⟨h.A2.sublist (List.take_sublist _ _), ⟨fun y hy => J3 y hy, h.A2.sublist (List.drop_sublist _ _)⟩, fun x hx y hy => ?_⟩;have h1 := n5 x hx;rcases List.mem_cons.1 hy with rfl | hy
  ·
   exact h1
  have := J3 y hy; omega
 ·
  rcases List.mem_append.1 hx with hx | hx
  ·
   exact h.num x (bQ hx)
  rcases List.mem_cons.1 hx with rfl | hx
  ·
   exact hn
  exact h.num x (dy hx)
 rcases List.mem_append.1 hx with hx | hx
 ·
  exact Nat.le_succ_of_le (h.len x (bQ hx))
 rcases List.mem_cons.1 hx with rfl | hx
 ·
  show [key].length ≤ _; simp
 exact Nat.le_succ_of_le (h.len x (dy hx))
theorem vm (l : List KP) : (gT l).length = l.length := aI ..
theorem St {l : List KP} (i : Nat) : yH (gT l) i = ((jh l i).1, (jh l i).2.2) := by
 unfold yH gT jh;rw [ax, ax, b8]
 cases l[i]? <;> rfl
theorem OM {l : List KP} {i : Nat} (h : i < l.length) : jh l i ∈ l := by
 unfold jh;rw [ax, aB h]; exact bJ h
theorem qk {s : eE} {key : Int} {n : Int} (h : n ∈ zk s key) : 1 ≤ n ∧ n ≤ 8 := by
 unfold zk at h
 split at h
 ·
  rename_i hv;have hV := (zR s).1 hv;obtain ⟨i, hi, e⟩ := b_ h;obtain ⟨r, h1, h2, _, _⟩ := R1 s.dP key _ i hi;rw [aB hi, e] at h2;injection h2 with h2;have := (hV.vg (show r < s.dP.length by omega)).num;rw [h2]; exact this
 cases h
theorem YX (s : eE) (key : Int) : (zk s key).length ≤ 8 := by
 unfold zk
 split
 ·
  rename_i hv;have hV := (zR s).1 hv;have h1 := YT s.dP key (s.dP.length - 1);have h2 := hV.len;omega
 exact au _
theorem eV.set {K : Nat} {l : List Gn} (h : eV K l) {g : Gn} (hg : ∀ i, i < 8 → (g.m.st i).length ≤ K) : eV K (uV l g) := fun x hx i hi => by
 rcases RV hx with hx | rfl
 ·
  exact h x hx i hi
 exact hg i hi
theorem k8 {s : eE} {g : Gn} {K : Nat} (h : eV K s.dP) (hg : ∀ i, i < 8 → (g.m.st i).length ≤ K) : eV K (yb s g).1.dP := by
 by_cases hc : (yb s g).2 = 0
 ·
  rw [Oi hc]; exact h.set hg
 have e : (yb s g).1 = xP := by
  unfold yb at hc ⊢
  split
  ·
   rename_i h1;rw [ag h1] at hc
   split
   ·
    rename_i h2;rw [ag h2] at hc
    split
    ·
     rename_i h3; rw [ag h3] at hc; exact absurd rfl hc
    rfl
   rfl
  rfl
 rw [e]; exact fun x hx => by cases hx
theorem uu {s : eE} {num : Int} {keys : List Int} {K : Nat} (h : eV K s.dP) : eV K (yX s num keys).1.dP := by
 unfold yX
 split
 ·
  rename_i h1
  split
  ·
   refine k8 h fun i hi => ?_
   have hk := h _ (th h1);have h0 : ((fT).m.st i).length ≤ K := au _;unfold ye
   split
   ·
    split
    ·
     exact h0
    exact wI keys _ hk i hi
   exact h0
  exact fun x hx => by cases hx
 exact fun x hx => by cases hx
end Go.Proofs.YtcgfilmmokmdjaaGreat
namespace Go.Proofs.YtcgfilmmokmdjaaGreat
open Go.RowKit
theorem zHE (i l : Int) (r : Bool) (a : Option Addr) (n c : Nat) (L : List GP) (w : World) (h : fl w (.slice a n c) L) (hs : ∀ p ∈ L, ∀ j, j < 8 → (p.1.m.st j).length ≤ 10000) (m : Int) :
  Calls Tryz.prog 36 #[zZ i l r a n c, .int .i64 m] w fun e w' => e = .returned (.bool (wW ⟨i, l, r, dV L⟩ m)) ∧ Below w.heap.size w w' := by
 have gp := zh (fun W (hb : Below w.heap.size w W) => yQ i l r a n c L W (h.below hb) hs);have eB := zh (eQ.new w i l r a n c 27);have eA := zh (zN w i l r a n c 27);have hcs : wW ⟨i, l, r, dV L⟩ m = (zg ⟨i, l, r, dV L⟩ && (decide (0 ≤ m) && decide (m ≤ 4096)) && decide ((zS ⟨i, l, r, dV L⟩).size + (eG m.toNat : Nat) ≤ l)) := rfl
 cases hv : zg ⟨i, l, r, dV L⟩
 ·
  rw [hv] at gp hcs;have HF := zh (show wW ⟨i, l, r, dV L⟩ m = false by rw [hcs]; rfl);clear h hs hv hcs;generalize wW ⟨i, l, r, dV L⟩ m = F at *
  go_enter Tryz.func36, Tryz.ntmps36
  go_upto_region 1 with fail;obtain ⟨W, hW⟩ : ∃ W, w.alloc (.cells (zK i l r a n c) 27) = W := ⟨_, rfl⟩
  change Code.wp _ _ _ _ (w.alloc (.cells (zK i l r a n c) 27));rw [hW] at eB eA ⊢;clear hW;have rD := eB.out.lt;obtain ⟨k0, k1, k2, k3⟩ := eB.out.q;go_wp2_with fail;refine (gp.out _ eA.out).mono ?_;rintro e w1 ⟨rfl, dW⟩;have eO := zh (zA eA.out dW);clear k0 k1 k2 k3 dW;go_wp2_with fail;go_ret;exact ⟨by rw [HF.out]; rfl, eO.out⟩
 by_cases h1 : m < 0
 ·
  rw [hv] at gp hcs;have HF := zh (show wW ⟨i, l, r, dV L⟩ m = false by rw [hcs, show decide (0 ≤ m) = false by simp; omega]; rfl);have e1 : decide (m < 0) = true := by simp; omega
  clear h hs hv hcs;generalize wW ⟨i, l, r, dV L⟩ m = F at *
  go_enter Tryz.func36, Tryz.ntmps36
  go_upto_region 1 with fail;obtain ⟨W, hW⟩ : ∃ W, w.alloc (.cells (zK i l r a n c) 27) = W := ⟨_, rfl⟩
  change Code.wp _ _ _ _ (w.alloc (.cells (zK i l r a n c) 27));rw [hW] at eB eA ⊢;clear hW;have rD := eB.out.lt;obtain ⟨k0, k1, k2, k3⟩ := eB.out.q;go_wp2_with fail;refine (gp.out _ eA.out).mono ?_;rintro e w1 ⟨rfl, dW⟩;have eO := zh (zA eA.out dW);clear k0 k1 k2 k3 dW;go_wp2_with fail;go_ret;exact ⟨by rw [HF.out]; rfl, eO.out⟩
 by_cases h2 : 4096 < m
 ·
  rw [hv] at gp hcs;have HF := zh (show wW ⟨i, l, r, dV L⟩ m = false by rw [hcs, show decide (m ≤ 4096) = false by simp; omega]; simp);have e1 : decide (m < 0) = false := by simp; omega
  have e2 : decide ((4096 : Int) < m) = true := by simp; omega
  clear h hs hv hcs;generalize wW ⟨i, l, r, dV L⟩ m = F at *
  go_enter Tryz.func36, Tryz.ntmps36
  go_upto_region 1 with fail;obtain ⟨W, hW⟩ : ∃ W, w.alloc (.cells (zK i l r a n c) 27) = W := ⟨_, rfl⟩
  change Code.wp _ _ _ _ (w.alloc (.cells (zK i l r a n c) 27));rw [hW] at eB eA ⊢;clear hW;have rD := eB.out.lt;obtain ⟨k0, k1, k2, k3⟩ := eB.out.q;go_wp2_with fail;refine (gp.out _ eA.out).mono ?_;rintro e w1 ⟨rfl, dW⟩;have eO := zh (zA eA.out dW);clear k0 k1 k2 k3 dW;go_wp2_with fail;go_ret;exact ⟨by rw [HF.out]; rfl, eO.out⟩
 obtain ⟨k, rfl⟩ : ∃ k : Nat, m = (k : Int) := ⟨m.toNat, by omega⟩
 have fN : L.length = n := by
  obtain ⟨_, _, e, _⟩ := h.shape;injection e with _ e _; exact e.symm
 have hV := (zR _).1 hv;have hn : 1 ≤ n := by have := hV.len; simp only [zj, fN] at this; exact this.1
 obtain ⟨j, rfl⟩ : ∃ j, n = j + 1 := ⟨n - 1, by omega⟩
 refine (zHH i l r a (j + 1) c L w h hs hv k (by omega)).mono fun e w' ⟨he, hb⟩ => ⟨?_, hb⟩
 rw [he, hcs, hv, vP fN, show decide ((0 : Int) ≤ (k : Int)) = true by simp, show decide ((k : Int) ≤ 4096) = true by simp; omega];simp
end Go.Proofs.YtcgfilmmokmdjaaGreat
