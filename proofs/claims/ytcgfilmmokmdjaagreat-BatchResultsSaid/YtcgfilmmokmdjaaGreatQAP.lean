/- A part of the walk. -/
import Derived.Test.YtcgfilmmokmdjaaGreatQAO
import Derived.Deep.MidRow
import Derived.Test.YtcgfilmmokmdjaaGreatHj
import Derived.OneCell
import Derived.Test.YtcgfilmmokmdjaaGreatQAK
set_option maxRecDepth 100000
set_option maxHeartbeats 32000000
namespace Go.Proofs.YtcgfilmmokmdjaaGreat
open Go.RowKit
theorem qH (w : World) (i l : Int) (r : Bool) (a : Option Addr) (n c : Nat) (y : GP) (t u : TypeId) : ∃ W, ((w.alloc (.cells (zK i l r a n c) t)).alloc (.cells (zW y.1.num y.1.rev y.1.mode y.1.size y.2 y.1.m.live y.1.m.dR) u)).alloc (.cells (zK 0 0 false none 0 0) t) = W ∧ eQ W w.heap.size i l r a n c ∧ eu W (w.heap.size + 1) y.1.num y.1.rev y.1.mode y.1.size y.2 y.1.m.live y.1.m.dR ∧ eQ W (w.heap.size + 2) 0 0 false none 0 0 ∧ Below w.heap.size w W := by
 have h1 := eQ.new w i l r a n c t;have b1 := zN w i l r a n c t;generalize Sd : w.alloc (.cells (zK i l r a n c) t) = w1 at *;have e1 : w1.heap.size = w.heap.size + 1 := by rw [← Sd, cG]
 have h2 := eu.new w1 y.1.num y.1.rev y.1.mode y.1.size y.2 y.1.m.live y.1.m.dR u;have b2 := zQ w1 y.1.num y.1.rev y.1.mode y.1.size y.2 y.1.m.live y.1.m.dR u;generalize BS : w1.alloc (.cells (zW y.1.num y.1.rev y.1.mode y.1.size y.2 y.1.m.live y.1.m.dR) u) = w2 at *;have e2 : w2.heap.size = w.heap.size + 2 := by rw [← BS, cG, e1]
 have h3 := eQ.new w2 0 0 false none 0 0 t;have b3 := zN w2 0 0 false none 0 0 t;rw [e1] at h2;rw [e2] at h3;exact ⟨_, rfl, (h1.below b2).below b3, h2.below b3, h3, zA (zA b1 b2) b3⟩
theorem kg (b : Nat) : ∀ (vs : List Value) (o : Nat) (W : World), W.setCells b o vs = pts W b (LU o vs)
 | [], _, _ => rfl
 | v :: r, o, W => kg b r (o + 1) _
theorem nt.there {W : World} {g o : Nat} {p : GP} (h : nt W g o p) (hf : ∀ i, W.frozen? ⟨g, i, none⟩ = false) : W.there g o 14 := fun j hj => by
 refine ⟨?_, hf _⟩;rcases (show j = 0 ∨ j = 1 ∨ j = 2 ∨ j = 3 ∨ j = 4 ∨ j = 5 ∨ j = 6 ∨ j = 7 ∨ j = 8 ∨ j = 9 ∨ j = 10 ∨ j = 11 ∨ j = 12 ∨ j = 13 by omega) with e | e | e | e | e | e | e | e | e | e | e | e | e | e <;> subst e
 ·
  rw [bp, h.n0]; rfl
 ·
  rw [h.n1]; rfl
 ·
  rw [h.n2]; rfl
 ·
  rw [h.n3]; rfl
 ·
  rw [h.c0]; rfl
 ·
  rw [h.c1]; rfl
 ·
  rw [h.c2]; rfl
 ·
  rw [h.c3]; rfl
 ·
  rw [h.c4]; rfl
 ·
  rw [h.c5]; rfl
 ·
  rw [h.c6]; rfl
 ·
  rw [h.c7]; rfl
 ·
  rw [h.cl]; rfl
 rw [h.cg]; rfl
theorem zK4 : (Tryz.prog.info? 113).map (·.size) = some 14 := by kernel_rfl
theorem Se : (Tryz.prog.info? 38).map (·.size) = some 14 := by kernel_rfl
theorem kt (num rev md sz : Int) (s : Sl) (LV GA : Int) : (zW num rev md sz s LV GA).all (·.oneCell') = true := all_oneCell_toArray (k7 (⟨num, rev, md, sz, ⟨fun _ => [], LV, GA⟩⟩, s))
theorem kV (W : World) (g o : Nat) (num rev md sz : Int) (s : Sl) (LV GA : Int) : W.setCells g o (zW num rev md sz s LV GA).toList = pts W g (o7 o num rev md sz s LV GA) := kg g _ o W
theorem zKo (i l : Int) (r : Bool) (a : Option Addr) (n c : Nat) (L : List GP) (w : World) (h : fl w (.slice a n c) L) (hs : ∀ p ∈ L, ∀ j, j < 8 → (p.1.m.st j).length ≤ 10000) (y : GP) (hy : fp w y.2 y.1.m.st) (AX : ∀ j, j < 8 → (y.1.m.st j).length ≤ 10000) (hv : zg ⟨i, l, r, dV L⟩ = false) :
  Calls Tryz.prog 44 #[zZ i l r a n c, za y.1.num y.1.rev y.1.mode y.1.size y.2 y.1.m.live y.1.m.dR] w (ig w (yb ⟨i, l, r, dV L⟩ y.1)) := by
 have gp := zh (fun W (hb : Below w.heap.size w W) => xR i l r a n c L W (h.below hb) hs);have HC := zh (show yb ⟨i, l, r, dV L⟩ y.1 = (xP, 1) by unfold yb; rw [hv]; rfl);rw [hv] at gp;clear h hs hv hy AX
 go_enter Tryz.func44, Tryz.ntmps44
 go_upto_region 1 with fail;change Code.wp _ _ _ _ (((w.alloc (.cells (zK i l r a n c) 31)).alloc (.cells (zW y.1.num y.1.rev y.1.mode y.1.size y.2 y.1.m.live y.1.m.dR) 113)).alloc (.cells (zK 0 0 false none 0 0) 31));obtain ⟨W, hW, fa, rK, f_, fu⟩ := qH w i l r a n c y 31 113;rw [hW];have HX := zh fa;have HG := zh rK;have HR := zh f_;have HB := zh fu;clear hW fa rK f_ fu;obtain ⟨k0, k1, k2, k3⟩ := HX.out.q;go_wp2_with fail;refine (gp.out _ HB.out).mono ?_;rintro e w1 ⟨rfl, hb⟩;replace HX := zh (HX.out.below hb);replace HR := zh (HR.out.below hb);replace HB := zh (zA HB.out hb);clear hb;clear k0 k1 k2 k3;obtain ⟨z0, z1, z2, z3⟩ := HR.out.q;have zf := HR.out.f;go_wp2_with fail;change bodyPost _ _ _ _ _ (pts w1 (w.heap.size + 2) (zJ 0 0 false none 0 0));have hby := HR.out.all 0 0 false none 0 0
 have ea := zh (zD (B := w.heap.size) (b := (w.heap.size + 2)) (by omega) (zJ 0 0 false none 0 0) HB.out);generalize pts w1 (w.heap.size + 2) (zJ 0 0 false none 0 0) = V at *;exact aw (v := .tuple #[zZ 0 0 false none 0 0, .int .i64 1]) (by simp [results, Tryz.results44, go_sem, hby.c0, hby.c1, hby.c2, hby.c3]) rfl (by rw [HC.out]; exact ig.no ea.out)
theorem zId (i l : Int) (r : Bool) (a : Option Addr) (n c : Nat) (L : List GP) (w : World) (h : fl w (.slice a n c) L) (hs : ∀ p ∈ L, ∀ j, j < 8 → (p.1.m.st j).length ≤ 10000) (y : GP) (hy : fp w y.2 y.1.m.st) (AX : ∀ j, j < 8 → (y.1.m.st j).length ≤ 10000) (hv : zg ⟨i, l, r, dV L⟩ = true) :
  Calls Tryz.prog 44 #[zZ i l r a n c, za y.1.num y.1.rev y.1.mode y.1.size y.2 y.1.m.live y.1.m.dR] w (ig w (yb ⟨i, l, r, dV L⟩ y.1)) := by
 have gp := zh (fun W (hb : Below w.heap.size w W) => xR i l r a n c L W (h.below hb) hs);have hV := (zR _).1 hv;have fN : L.length = n := by
  obtain ⟨_, _, e, _⟩ := h.shape;injection e with _ e _; exact e.symm
 have hl : (dV L).length = n := by rw [zj, fN]
 have hn : 1 ≤ n ∧ n ≤ 8 := by have := hV.len; simp only [hl] at this; exact this
 have HC := zh (show yb ⟨i, l, r, dV L⟩ y.1 = (if qx L y.1.num n = true then (if zg ⟨i, l, r, dV (tT L y)⟩ = true then (⟨i, l, r, dV (tT L y)⟩, 0) else (xP, 1)) else (xP, 6)) by
  unfold yb; rw [ag hv, Yl L y.1.num n fN.symm, zJ3])
 rw [hv] at gp
 have pU := zh (show ∀ W, Below w.heap.size w W → ∀ p ∈ tT L y, fp W p.2 p.1.m.st from fun W hb p hp => by
  rcases Yh hp with hp | rfl
  ·
   exact (h.m p hp).below hb
  exact hy.below hb)
 have jL := zh (show ∀ p ∈ tT L y, ∀ j, j < 8 → (p.1.m.st j).length ≤ 10000 from fun p hp => by
  rcases Yh hp with hp | rfl
  ·
   exact hs p hp
  exact AX)
 have lC := zh (show n = (tT L y).length by rw [tN, fN]);have FD := zh (zGy L y);have Iw := zh (zJM L y n fN.symm);have Dt := zh (fun k => show n = (vZ L y k).length by rw [Yi, fN]);have Yo := zh (fun k (hk : k < n) => Yj (L := L) (k := k) (by omega) y);have Iy := zh (fun k (hk : k < n) => show ((pat L k).1.num = y.1.num → vZ L y (k + 1) = (vZ L y k).set k y) ∧ ((pat L k).1.num ≠ y.1.num → vZ L y (k + 1) = vZ L y k) from ⟨fun e => by rw [Yk (by omega), ag e], fun e => zHd (by omega) y e⟩);have LX := zh (fun k (hk : k < n) => zG8 (L := L) (k := k) (by omega) y.1.num);have Yp := zh (show qx L y.1.num 0 = false from rfl)
 have ng := zh (fun W (hb : Below w.heap.size w W) => show Rd W 14 (.slice a n c) n (L.flatMap gP) from by
  have h1 := (iu.below h.r hb).2
  rwa [fN] at h1)
 have jm := zh (Sb L);clear h hs hv hV fN hl hy AX;obtain ⟨⟨num, rev, md, sz, ⟨f, LV, GA⟩⟩, s⟩ := y;dsimp only at *
 go_enter Tryz.func44, Tryz.ntmps44
 go_upto_region 1 with fail;change Code.wp _ _ _ _ (((w.alloc (.cells (zK i l r a n c) 31)).alloc (.cells (zW num rev md sz s LV GA) 113)).alloc (.cells (zK 0 0 false none 0 0) 31));obtain ⟨W, hW, fa, rK, f_, fu⟩ := qH w i l r a n c (⟨num, rev, md, sz, ⟨f, LV, GA⟩⟩, s) 31 113;rw [hW];have HX := zh fa;have HG := zh rK;have HR := zh f_;have HB := zh fu;clear hW fa rK f_ fu;have Iu : w.heap.size + 3 ≤ W.heap.size := by have := HR.out.lt; omega
 dsimp only at HG;obtain ⟨k0, k1, k2, k3⟩ := HX.out.q;go_wp2_with fail;refine (gp.out _ HB.out).mono ?_;rintro e w1 ⟨rfl, hb⟩;replace HX := zh (HX.out.below hb);replace HG := zh (HG.out.below hb);replace HR := zh (HR.out.below hb);replace HB := zh (zA HB.out hb);have iB := ak Iu hb.size;clear hb gp;clear k0 k1 k2 k3;have k3 := HX.out.c3;obtain ⟨w2, BS⟩ : ∃ w2, w1.alloc (.cells #[] 113) = w2 := ⟨_, rfl⟩
 have OA := db (e := 113) (size := 14) w1 #[] 0 (ai w1.heap.size) (by decide) rfl;have eC : Below w1.heap.size w1 w2 := BS ▸ (aj w1.heap.size w1).alloc (ai _) (.cells #[] 113);rw [BS] at OA;have LZ := zA HB.out eC;replace k3 := (HX.out.below eC).c3;go_wp2_with (at_builtin; go_must (refine zd rfl (.tmp 12) (.tmp 14) 29 rfl LW w1.heap.size rfl OA rfl (ng.out w2 LZ) jm.out (by unfold maxLen; omega) (by omega) eC.size ?_; intro v3 w3 d_ eW mH; clear mH; rw [aJ, bU] at d_; obtain ⟨ra, rc, rfl, _⟩ := zO d_; have eU := zM eC OA eC.size eW; replace k3 := (HX.out.below eU).c3; have kf := (HX.out.below eU).f));obtain ⟨g, rfl, hgB, nF⟩ := uJ d_ (by omega);have gZ := zh (show eQ (pts w3 w.heap.size [(3, .slice (some ⟨g, 0, none⟩) n rc)]) w.heap.size i l r (some ⟨g, 0, none⟩) n rc from (HX.out.below eU).Cd (some ⟨g, 0, none⟩) n rc)
 have E3 := zh ((HG.out.below eU).ek (c := w.heap.size) (by omega) [(3, .slice (some ⟨g, 0, none⟩) n rc)]);have jF := zh ((HR.out.below eU).ek (d := w.heap.size) (by omega) [(3, .slice (some ⟨g, 0, none⟩) n rc)]);have fM := zh (zD (B := w.heap.size) (b := w.heap.size) (ai _) [(3, .slice (some ⟨g, 0, none⟩) n rc)] (zA HB.out eU));have iy := zh (xw (b := w.heap.size) (by omega) d_ [(3, .slice (some ⟨g, 0, none⟩) n rc)]);have hg9 : w.heap.size + 3 ≤ g := by omega
 clear HX HG HR HB eU d_ eW OA eC LZ ng jm k3 kf BS nF;change Code.wp _ _ _ _ (pts w3 w.heap.size [(3, .slice (some ⟨g, 0, none⟩) n rc)]);generalize (pts w3 w.heap.size [(3, .slice (some ⟨g, 0, none⟩) n rc)]) = w4 at *;rw [← FD.out] at iy
 go_loopw [6, 7] (fun fv iv V => ∃ (k : Nat) (m : Bool), iv = .int .i64 (k : Int) ∧ fv = .bool m ∧ k ≤ n ∧ Hid (m = qx L num k) ∧ Hid (V.ownsRow w1.heap.size 113 14 (.slice (some ⟨g, 0, none⟩) n rc) n ((vZ L (((⟨num, rev, md, sz, ⟨f, LV, GA⟩⟩ : Gn), s) : GP) k).flatMap gP)) ∧ Hid (eQ V w.heap.size i l r (some ⟨g, 0, none⟩) n rc) ∧ Hid (eu V (w.heap.size + 1) num rev md sz s LV GA) ∧ Hid (eQ V (w.heap.size + 2) 0 0 false none 0 0) ∧ Hid (Below w.heap.size w V)) (fun _ iv _ => n - (intOf iv).toNat)
 case atStart => exact ⟨0, false, rfl, rfl, au _, zh Yp.out.symm, iy, gZ, E3, jF, fM⟩
 obtain ⟨k, m, rfl, rfl, hk, Hm, HO, HX, HG, HR, HB⟩ := eT;clear gZ E3 jF fM iy;have k3 := HX.out.c3
 by_cases hlt : k < n
 ·
  have i1 : (k : Int) < (n : Int) := by omega
  have hat := Ox HO.out (Dt.out k) hlt;rw [Yo.out k hlt] at hat;have q0 := HG.out.n0;have OB := Iy.out k hlt;have OC := LX.out k hlt;have Qt := zh (show k < (vZ L (((⟨num, rev, md, sz, ⟨f, LV, GA⟩⟩ : Gn), s) : GP) k).length by rw [← Dt.out k]; exact hlt)
  by_cases jt : (pat L k).1.num = num
  ·
   have KR := zh (show true = qx L num (k + 1) by rw [OC, aF jt, Bool.or_true]);have OD := zh (OB.1 jt);clear OB OC;have c0 := hat.n0;rw [jt] at c0;go_upto_region 8 with fail;replace k3 := zB k3;replace c0 := zB c0;replace q0 := zB q0;refine zC (by kernel_rfl) (by kernel_rfl) ?_
   repeat (go_big_quiet_step (fail))
   refine aC ?_;intro _ dY;obtain ⟨q, dY⟩ := dY;subst dY;have hat := hat.below q.h;replace HO := zh (zH HO.out q.h);replace HX := zh (HX.out.below q.h);replace HG := zh (HG.out.below q.h);replace HR := zh (HR.out.below q.h);replace HB := zh (zA HB.out q.h);clear k3 c0 q0;generalize q.w' = v0 at *;clear q;have hst := R_ HO.out k Qt.out (((⟨num, rev, md, sz, ⟨f, LV, GA⟩⟩ : Gn), s) : GP);rw [← OD.out] at hst;have mQ := zh hst.1;have pR := zh (HG.out.mZ hst.2 (by omega));have fk := zh (HX.out.mZ hst.2 (by omega));have eY := zh (HR.out.mZ hst.2 (by omega));have eO := zh (zD (B := w.heap.size) (b := g) (by omega) (o7 (k * 14) num rev md sz s LV GA) HB.out);have pI := wO HO.out;have k3 := HX.out.c3;clear hst;have OE := zh (hat.there pI);clear hat pI;obtain ⟨u0, u1, u2, u3, u4, u5, u6, u7, u8, u9, Yq, Yr, Yt, Yu⟩ := HG.out.q
   go_wp2_with ((with_reducible refine wpList_store_mid ?_ 113 (.tmp 37) (.tmp 36) ?_ g (k * 14) (zW num rev md sz s LV GA) ?_ ?_ ?_ ?_ ?_ ?_); rfl; rfl; rfl; rfl; exact OE.out; exact zK4; exact kt _ _ _ _ _ _ _; rw [kV]);exact ⟨⟨k + 1, true, by go_num, rfl, by omega, KR, mQ, fk, pR, eY, eO⟩, by simp [intOf]; omega⟩
  have KR := zh (show m = qx L num (k + 1) by rw [OC, aD jt, Bool.or_false]; exact Hm.out);have mQ := HO;rw [← OB.2 jt] at mQ;have c0 := hat.n0;have hne : ((pat L k).1.num == num) = false := by simp [jt]
  clear hat OB OC;generalize (pat L k).1.num = pn at *;go_upto_region 8 with fail;replace k3 := zB k3;replace c0 := zB c0;replace q0 := zB q0;refine zC (by kernel_rfl) (by kernel_rfl) ?_
  repeat (go_big_quiet_step (fail))
  refine aC ?_;intro _ dY;obtain ⟨q, dY⟩ := dY;subst dY;replace mQ := zh (zH mQ.out q.h);replace HX := zh (HX.out.below q.h);replace HG := zh (HG.out.below q.h);replace HR := zh (HR.out.below q.h);replace HB := zh (zA HB.out q.h);clear k3 c0 q0;generalize q.w' = v0 at *;clear q;go_wp2_with fail;exact ⟨⟨k + 1, m, by go_num, rfl, by omega, KR, mQ, HX, HG, HR, HB⟩, by simp [intOf]; omega⟩
 have i1 : ¬ (k : Int) < (n : Int) := by omega
 obtain rfl : k = n := by omega
 rw [Iw.out] at HO;have hm := Hm.out;rw [← hm] at HC;clear hm Hm Iy LX Yo Dt FD Yp hlt hk Iw
 cases m
 ·
  have Ga := zh (HC.out.trans (ah (by decide)));clear HC;obtain ⟨z0, z1, z2, z3⟩ := HR.out.q;have zf := HR.out.f;go_wp2_with fail;change bodyPost _ _ _ _ _ (pts wr (w.heap.size + 2) (zJ 0 0 false none 0 0));have hby := HR.out.all 0 0 false none 0 0;have ea := zh (zD (B := w.heap.size) (b := (w.heap.size + 2)) (by omega) (zJ 0 0 false none 0 0) HB.out);generalize pts wr (w.heap.size + 2) (zJ 0 0 false none 0 0) = V at *;exact aw (v := .tuple #[zZ 0 0 false none 0 0, .int .i64 6]) (by simp [results, Tryz.results44, go_sem, hby.c0, hby.c1, hby.c2, hby.c3]) rfl (by rw [Ga.out]; exact ig.no ea.out)
 have Ga := HC.out.trans (ag rfl);have AU := zh (uz HO.out lC.out (pU.out wr HB.out));have Dj := zh (xR i l r (some ⟨g, 0, none⟩) k rc (tT L (((⟨num, rev, md, sz, ⟨f, LV, GA⟩⟩ : Gn), s) : GP)) wr AU.out jL.out);have BZ := HO;clear HC HO;have k0 := HX.out.c0;have k1 := HX.out.c1;have k2 := HX.out.c2
 cases Iz : zg ⟨i, l, r, dV (tT L (((⟨num, rev, md, sz, ⟨f, LV, GA⟩⟩ : Gn), s) : GP))⟩
 ·
  rw [Iz] at Dj Ga;have HC := zh (Ga.trans (ah (by decide)));clear Ga Iz;go_wp2_with fail;refine Dj.out.mono ?_;rintro e v1 ⟨rfl, hb⟩;replace HR := zh (HR.out.below hb);replace HB := zh (zA HB.out hb);clear hb k0 k1 k2 k3 Dj AU HX HG;obtain ⟨z0, z1, z2, z3⟩ := HR.out.q;have zf := HR.out.f;go_wp2_with fail;change bodyPost _ _ _ _ _ (pts v1 (w.heap.size + 2) (zJ 0 0 false none 0 0));have hby := HR.out.all 0 0 false none 0 0;have ea := zh (zD (B := w.heap.size) (b := (w.heap.size + 2)) (by omega) (zJ 0 0 false none 0 0) HB.out);generalize pts v1 (w.heap.size + 2) (zJ 0 0 false none 0 0) = V at *;exact aw (v := .tuple #[zZ 0 0 false none 0 0, .int .i64 1]) (by simp [results, Tryz.results44, go_sem, hby.c0, hby.c1, hby.c2, hby.c3]) rfl (by rw [HC.out]; exact ig.no ea.out)
 rw [Iz] at Dj Ga;have HC := zh (Ga.trans (ag rfl));clear Ga Iz;go_wp2_with fail;refine Dj.out.mono ?_;rintro e v1 ⟨rfl, hb⟩;replace HX := zh (HX.out.below hb);replace HR := zh (HR.out.below hb);replace HB := zh (zA HB.out hb);replace BZ := zh (zH BZ.out hb);clear hb k0 k1 k2 k3 Dj HG;obtain ⟨k0, k1, k2, k3⟩ := HX.out.q;obtain ⟨z0, z1, z2, z3⟩ := HR.out.q;have zf := HR.out.f;go_wp2_with fail;change bodyPost _ _ _ _ _ (pts v1 (w.heap.size + 2) (zJ i l r (some ⟨g, 0, none⟩) k rc));have sq := zh (show fl (pts v1 (w.heap.size + 2) (zJ i l r (some ⟨g, 0, none⟩) k rc)) (.slice (some ⟨g, 0, none⟩) k rc) (tT L (((⟨num, rev, md, sz, ⟨f, LV, GA⟩⟩ : Gn), s) : GP)) from uz (xw (b := w.heap.size + 2) (by omega) BZ.out _) lC.out (pU.out _ (zD (B := w.heap.size) (b := w.heap.size + 2) (by omega) (zJ i l r (some ⟨g, 0, none⟩) k rc) HB.out)));have hby := HR.out.all i l r (some ⟨g, 0, none⟩) k rc
 have ea := zh (zD (B := w.heap.size) (b := (w.heap.size + 2)) (by omega) (zJ i l r (some ⟨g, 0, none⟩) k rc) HB.out);generalize pts v1 (w.heap.size + 2) (zJ i l r (some ⟨g, 0, none⟩) k rc) = V at *;exact aw (v := .tuple #[zZ i l r (some ⟨g, 0, none⟩) k rc, .int .i64 0]) (by simp [results, Tryz.results44, go_sem, hby.c0, hby.c1, hby.c2, hby.c3]) rfl (by rw [HC.out]; exact ⟨⟨_, k, rc, tT L (((⟨num, rev, md, sz, ⟨f, LV, GA⟩⟩ : Gn), s) : GP), rfl, sq.out, rfl⟩, ea.out⟩)
theorem Sf : xj Tryz.prog 25 38 14 240 := by
 obtain ⟨i, hi, hz, hs, hb⟩ := cn (P := Tryz.prog) (e := 38) (z := za 0 0 0 0 Sl.nil 0 0) (size := 14) (bytes := 240) (by kernel_rfl);exact ⟨Tryz.underlying25, by decide, i, _, hi, hz, hs, hb, rfl⟩
theorem Yw (w : World) (i l : Int) (r : Bool) (a : Option Addr) (n c : Nat) (t u : TypeId) : ∃ W, (w.alloc (.cells (zK i l r a n c) t)).alloc (.cells (zK 0 0 false none 0 0) u) = W ∧ eQ W w.heap.size i l r a n c ∧ eQ W (w.heap.size + 1) 0 0 false none 0 0 ∧ Below w.heap.size w W ∧ W.heap.size = w.heap.size + 2 := by
 refine ⟨_, rfl, (eQ.new w i l r a n c t).below (zN _ 0 0 false none 0 0 u), ?_, zA (zN w i l r a n c t) (zN _ 0 0 false none 0 0 u), by simp [cG]⟩;have := eQ.new (w.alloc (.cells (zK i l r a n c) t)) 0 0 false none 0 0 u
 rwa [cG] at this
def Yx (x : GP) : lQ := ⟨fun v w => ∃ j, v = .slice (some ⟨j, 0, none⟩) 1 1 ∧ Rd w 14 (.slice (some ⟨j, 0, none⟩) 1 1) 1 (gP x), fun _ _ _ hb ⟨j, h1, h2⟩ => ⟨j, h1, h2.below hb⟩⟩
theorem Yy (L : List GP) (k : Nat) (hk : k < L.length) : (L.take (k + 1)).flatMap gP = (L.take k).flatMap gP ++ gP (pat L k) := by
 rw [cU, aB hk, cm];unfold pat;rw [ax, aB hk];simp
theorem OG {W : World} {B b : Nat} {e : TypeId} {sz n : Nat} {v : Value} {xs : List Value} (h : W.ownsRow B e sz v n xs) (hb : b < B) : some b ≠ v.ownBlock := fun e => by
 have := (h.lt b e.symm).1; omega
theorem eQ.rL {W W' : World} {b : Nat} {row : Option Nat} {i l : Int} {r : Bool} {a : Option Addr} {n c : Nat} (h : eQ W b i l r a n c) (hg : W.grownBy W' row) (hne : some b ≠ row) : eQ W' b i l r a n c := by
 have k : ∀ i u, W.cell? ⟨b, i, none⟩ = some u → W'.cell? ⟨b, i, none⟩ = some u := fun i u hu => hg.cell hu hne
 refine ⟨k _ _ h.c0, k _ _ h.c1, k _ _ h.c2, k _ _ h.c3, fun i => ?_⟩;have e := hg.block b h.lt hne;rw [← h.f i]; unfold World.frozen?; rw [e]
end Go.Proofs.YtcgfilmmokmdjaaGreat
namespace Go.Proofs.YtcgfilmmokmdjaaGreat
open Go.RowKit
def dQ (W : World) (b : Nat) (cs : Array Value) (t : TypeId) : Prop := W.heap[b]? = some (.cells cs t (0, 0))
section
variable {W W' : World} {b : Nat} {cs : Array Value} {t : TypeId}
theorem dQ.lt (h : dQ W b cs t) : b < W.heap.size := (Array.getElem?_eq_some_iff.1 h).1
theorem dQ.below (h : dQ W b cs t) (hb : Below W.heap.size W W') : dQ W' b cs t := by
 unfold dQ;rw [hb.block b h.lt]; exact h
theorem dQ.new (W : World) (cs : Array Value) (t : TypeId) : dQ (W.alloc (.cells cs t)) W.heap.size cs t := cW W _
theorem dQ.rM (h : dQ W b cs t) (i : Nat) : W.cell? ⟨b, i, none⟩ = cs[i]? := by
 have h : W.heap[b]? = some (.cells cs t (0, 0)) := h;simp [World.cell?, h]
theorem dQ.cell (h : dQ W b cs t) {i : Nat} {u : Value} (hu : cs[i]? = some u) : W.cell? ⟨b, i, none⟩ = some u := (h.rM i).trans hu
theorem dQ.frozen (h : dQ W b cs t) (i : Nat) : W.frozen? ⟨b, i, none⟩ = false := by
 have h : W.heap[b]? = some (.cells cs t (0, 0)) := h;unfold World.frozen?;rw [h];simp
theorem dQ.set (h : dQ W b cs t) (i : Nat) (u : Value) : dQ (W.setCell ⟨b, i, none⟩ u) b (cs.setIfInBounds i u) t := by
 have hl := h.lt;have hk := (Array.getElem?_eq_some_iff.1 h).2
 show (W.heap.modify b _)[b]? = _
 rw [bD (by rw [Array.size_modify]; exact hl), Array.getElem_modify_self, hk]
 rfl
theorem dQ.sets : ∀ (vs : List (Nat × Value)) {W : World} {cs : Array Value}, dQ W b cs t → dQ (pts W b vs) b (vs.foldl (fun cs p => cs.setIfInBounds p.1 p.2) cs) t
 | [], _, _, h => h
 | (i, u) :: r, _, _, h => dQ.sets r (h.set i u)
theorem dQ.ek {c : Nat} (hne : b ≠ c) : ∀ (vs : List (Nat × Value)) {W : World}, dQ W b cs t → dQ (pts W c vs) b cs t
 | [], _, h => h
 | (i, u) :: r, W, h => dQ.ek hne r (show (W.setCell ⟨c, i, none⟩ u).heap[b]? = _ by rw [Below.heap_setCell W ⟨c, i, none⟩ u b hne]; exact h)
theorem dQ.grown {row : Option Nat} (h : dQ W b cs t) (hg : W.grownBy W' row) (hne : some b ≠ row) : dQ W' b cs t := by
 unfold dQ;rw [hg.block b h.lt hne]; exact h
def OH (cs : Array Value) (xs : List Value) : Prop := ∀ off : Nat, ∃ (j : Nat) (u : Value), xs[j]? = some u ∧ cs[off + j]? ≠ some u
theorem Sg {sz n : Nat} {v : Value} {xs : List Value} (hr : Rd W sz v n xs) (h : dQ W b cs t) (ha : 0 < xs.length → OH cs xs) (vs : List (Nat × Value)) : Rd (pts W b vs) sz v n xs := by
 obtain ⟨h0, a, cap, e, h1, h2, h3, h4⟩ := hr;refine ⟨h0, a, cap, e, h1, h2, h3, fun hp => ?_⟩;obtain ⟨b', off, e2, hc⟩ := h4 hp;refine ⟨b', off, e2, fun j u hj => ?_⟩;have hne : b' ≠ b := by
  rintro rfl;obtain ⟨j', u', h5, h6⟩ := ha hp off;have h7 := hc j' u' h5;rw [h.rM] at h7;exact h6 h7
 exact (zt (p := ⟨b', off + j, none⟩) hne vs W).trans (hc j u hj)
end
/-! ### A slot in its block -/
section
variable {W W' : World} {b : Nat} {t : TypeId} {i l : Int} {r : Bool} {a : Option Addr} {n c : Nat}
theorem dQ.gX (h : dQ W b (zK i l r a n c) t) : eQ W b i l r a n c := ⟨h.cell rfl, h.cell rfl, h.cell rfl, h.cell rfl, h.frozen⟩
theorem dQ.rN (h : dQ W b (zK i l r a n c) t) (i' l' : Int) (r' : Bool) (a' : Option Addr) (n' c' : Nat) : dQ (pts W b (zJ i' l' r' a' n' c')) b (zK i' l' r' a' n' c') t :=
 (((h.set 0 (.int .i64 i')).set 1 (.int .i64 l')).set 2 (.bool r')).set 3 (.slice a' n' c')
theorem zIg (i l : Int) (r : Bool) (a : Option Addr) (n c : Nat) (L : List GP) (hp : 0 < (L.flatMap gP).length) : OH (zK i l r a n c) (L.flatMap gP) := fun off => by
 match L, hp with
 | p :: q, _ =>
  match off with
  | 0 => exact ⟨2, .int .i64 p.1.mode, rfl, fun h => by cases h⟩
  | 1 => exact ⟨1, .int .i64 p.1.rev, rfl, fun h => by cases h⟩
  | 2 => exact ⟨0, .int .i64 p.1.num, rfl, fun h => by cases h⟩
  | 3 => exact ⟨0, .int .i64 p.1.num, rfl, fun h => by cases h⟩
  | k + 4 => exact ⟨0, .int .i64 p.1.num, rfl, fun h => by
    rw [Array.getElem?_eq_none (by show 4 ≤ k + 4 + 0; omega)] at h; cases h⟩
theorem zJY (i l : Int) (r : Bool) (a : Option Addr) (n c : Nat) (L : List It) (hp : 0 < (zU L).length) : OH (zK i l r a n c) (zU L) := fun off => by
 match L, hp with
 | p :: q, _ =>
  match off with
  | 0 => exact ⟨0, .int .u64 p.key, rfl, fun h => by cases h⟩
  | 1 => exact ⟨0, .int .u64 p.key, rfl, fun h => by cases h⟩
  | 2 => exact ⟨0, .int .u64 p.key, rfl, fun h => by cases h⟩
  | 3 => exact ⟨0, .int .u64 p.key, rfl, fun h => by cases h⟩
  | k + 4 => exact ⟨0, .int .u64 p.key, rfl, fun h => by
    rw [Array.getElem?_eq_none (by show 4 ≤ k + 4 + 0; omega)] at h; cases h⟩
theorem zHx (n r md z : Int) (s : Sl) (l g : Int) (L : List It) (hp : 0 < (zU L).length) : OH (zW n r md z s l g) (zU L) := fun off => by
 match L, hp with
 | p :: q, _ =>
  refine ⟨0, .int .u64 p.key, rfl, fun h => ?_⟩
  match off with
  | 0 => cases h
  | 1 => cases h
  | 2 => cases h
  | 3 => cases h
  | 4 => cases h
  | 5 => cases h
  | 6 => cases h
  | 7 => cases h
  | 8 => cases h
  | 9 => cases h
  | 10 => cases h
  | 11 => cases h
  | 12 => cases h
  | 13 => cases h
  | k + 14 => rw [Array.getElem?_eq_none (by show 14 ≤ k + 14 + 0; omega)] at h; cases h
theorem fp.gX {s : Sl} {f : Nat → List It} (h : fp W s f) (hb : dQ W b (zK i l r a n c) t) (vs : List (Nat × Value)) : fp (pts W b vs) s f := fun j hj =>
 yj (n := (f j).length) (Sg (tK (h j hj)) hb (fun hp => zJY _ _ _ _ _ _ _ hp) vs)
theorem fl.gX {v : Value} {L : List GP} (h : fl W v L) (hb : dQ W b (zK i l r a n c) t) (vs : List (Nat × Value)) : fl (pts W b vs) v L :=
 ⟨⟨h.r.1, Sg h.r.2 hb (fun hp => zIg _ _ _ _ _ _ _ hp) vs⟩, fun p hp => (h.m p hp).gX hb vs⟩
theorem fp.gen {s : Sl} {f : Nat → List It} {n' r' md z : Int} {s' : Sl} {l' g : Int} (h : fp W s f) (hb : dQ W b (zW n' r' md z s' l' g) t) (vs : List (Nat × Value)) : fp (pts W b vs) s f := fun j hj =>
 yj (n := (f j).length) (Sg (tK (h j hj)) hb (fun hp => zHx _ _ _ _ _ _ _ _ hp) vs)
end
/-! ### A generation in its block -/
section
variable {W W' : World} {b : Nat} {t : TypeId} {n r md z : Int} {s : Sl} {l g : Int}
theorem dQ.gen (h : dQ W b (zW n r md z s l g) t) : eu W b n r md z s l g := by
 refine ⟨h.cell rfl, h.cell rfl, h.cell rfl, h.cell rfl, fun j hj => ?_, h.cell rfl, h.cell rfl, h.frozen⟩;rcases GH hj with e | e | e | e | e | e | e | e <;> subst e <;> exact h.cell rfl
theorem dQ.nh (h : dQ W b (zW n r md z s l g) t) (n' r' md' z' : Int) (s' : Sl) (l' g' : Int) : dQ (pts W b (zL n' r' md' z' s' l' g')) b (zW n' r' md' z' s' l' g') t :=
 by
  have h1 := dQ.sets (zL n' r' md' z' s' l' g') h;have e : (zL n' r' md' z' s' l' g').foldl (fun cs p => cs.setIfInBounds p.1 p.2) (zW n r md z s l g) = zW n' r' md' z' s' l' g' := by
   simp only [dD, List.foldl_nil, aP, aQ, aN]
  rw [e] at h1;exact h1
end
/-! ### mC operations leave: a generation and its error; a generation; a E_ box; a slot and its error; a slot -/
def YA (c a b md z : Int) (f : Nat → List It) (L G : Int) : lQ := ⟨fun v w => ∃ s, v = .tuple #[za a b md z s L G, .int .i64 c] ∧ fp w s f, fun _ _ _ hb ⟨s, h1, h2⟩ => ⟨s, h1, h2.below hb⟩⟩
def zL3 (a b md z : Int) (f : Nat → List It) (L G : Int) : lQ := ⟨fun v w => ∃ s, v = za a b md z s L G ∧ fp w s f, fun _ _ _ hb ⟨s, h1, h2⟩ => ⟨s, h1, h2.below hb⟩⟩
def zL1 (t : TypeId) (B : Nat) : lQ := ⟨fun v w => ∃ b, v = .pointer (some ⟨b, 0, none⟩) ∧ B ≤ b ∧ dQ w b (zW 0 0 0 0 Sl.nil 0 0) t, fun _ _ _ hb ⟨b, h1, h2, h3⟩ => ⟨b, h1, h2, h3.below hb⟩⟩
def zLv (L : List Nd) : lQ := ⟨fun v w => ∃ a n c es, v = .slice a n c ∧ mK w (.slice a n c) es ∧ es.map (·.1) = L, fun _ _ _ hb ⟨a, n, c, es, h1, h2, h3⟩ => ⟨a, n, c, es, h1, h2.below hb, h3⟩⟩
end Go.Proofs.YtcgfilmmokmdjaaGreat
namespace Go.Proofs.YtcgfilmmokmdjaaGreat
open Go Go.RowKit
section
variable {P : Program} {ops : Array Oper} {md : Region.Mode}
def OI (md : Region.Mode) (ops : Array Oper) (n k : Nat) : Bool :=
 decide (n < ops.size) && decide (k < n) &&
 ((List.range n).all fun i => decide (i = k) || (List.range (n + 1)).any fun j => decide (i < j) && decide (j ≠ k) && Region.waitsFor md ops j i) && Region.chainB md ops n &&
 ((List.range n).all fun i => ((ops[i]?).map fun o => o.dst.isSome && o.after.all fun e => !Region.binds md e || decide (e.on < i)).getD false) &&
 ((List.range n).all fun i => (List.range n).all fun j => decide (i = j) || decide (zX ops i ≠ zX ops j)) &&
 Region.seqB md ops (ops.size - n) n ((List.range ops.size).map fun j => decide (j < n)).toArray &&
 decide (Region.ready md ops ((List.range ops.size).map fun j => decide (j ≤ n ∧ j ≠ k)).toArray = [k]) &&
 Region.seqB md ops (ops.size - (n + 1)) (n + 1) ((List.range ops.size).map fun j => decide (j ≤ n)).toArray
theorem YB {n t : Nat} {listed : Array Bool} {ot : Oper} (hc : Region.chainB md ops n = true) (inv : HeadInv md ops n listed) (ht : n ≤ t) (htn : t ≠ n) (L0 : ops[t]? = some ot)
  (hall : ∀ e ∈ ot.after, Region.binds md e = true → listed.getD e.on false = true) (htlt : t < ops.size) : False := by
 have h1 := List.all_eq_true.1 hc t (List.mem_range.2 htlt);simp only [Bool.or_eq_true, aU] at h1;rcases h1 with h1 | h1
 ·
  omega
 obtain ⟨o', ho', e, he, hb, hon⟩ := Region.waitsFor_spec h1;have : o' = ot := Option.some.inj (ho'.symm.trans L0);subst this;have h2 := hall e he hb;rw [hon, getD_both (inv.tail (t - 1) (by omega) (by omega))] at h2
 cases h2
theorem zFB {n k : Nat} {listed : Array Bool} (hs : ∀ i, i < n → i ≠ k → ∃ j, j ≤ n ∧ i < j ∧ j ≠ k ∧ Region.waitsFor md ops j i = true) (hc : Region.chainB md ops n = true) (hn : n < ops.size) (inv : HeadInv md ops n listed) :
  ∀ (d i : Nat), n - i = d → i < n → i ≠ k → listed.getD i true = false → ∀ t, n ≤ t → t ∉ Region.ready md ops listed := by
 intro d
 induction d using Nat.strongRecOn with
 | _ d ih =>
  intro i hd hi hik hun t ht hr;obtain ⟨_, ot, L0, hall⟩ := mem_ready.1 hr;have htlt : t < ops.size := (Array.getElem?_eq_some_iff.1 L0).1
  by_cases htn : t = n
  ·
   subst htn;obtain ⟨j, hjle, hij, hjk, hw⟩ := hs i hi hik;obtain ⟨oj, JF, e, he, hb, hon⟩ := Region.waitsFor_spec hw
   by_cases hjt : j = t
   ·
    subst hjt;have : oj = ot := Option.some.inj (JF.symm.trans L0);subst this;have h2 := hall e he hb;rw [hon, getD_both hun] at h2
    cases h2
   cases hl : listed.getD j false with
   | true =>
    have h2 := inv.closed j oj JF hl e he hb;rw [hon, getD_both hun] at h2
    cases h2
   | false =>
    have ic : j < listed.size := by rw [inv.size]; omega
    exact ih (t - j) (by omega) j rfl (by omega) hjk (getD_in ic hl) t (ai _) hr
  exact YB hc inv ht htn L0 hall htlt
variable {Q : Exit → Act → World → Prop}
theorem zIU {n k : Nat} {a0 : Act} {w0 : World} {Φ : Nat → Value → World → Prop} {F : Nat → Prop} {l : List Oper} {on ok : Oper} (hl : ops = l.toArray) (hB : OI md ops n k = true) (hon : ops[n]? = some on) (hok : ops[k]? = some ok) (OJ : ¬ F k) (hN : ∀ i, i < n → ∀ t, zX ops i = some t → t < a0.tmps.size)
  (mono : ∀ j, j < n → ∀ v w1 w2, Below w1.heap.size w1 w2 → Φ j v w1 → Φ j v w2)
  (head : ∀ i o, i < n → ops[i]? = some o → ∀ f w1, Below w0.heap.size w0 w1 → (∀ e ∈ o.after, Region.binds md e = true → Φ e.on (f e.on) w1) →
   wpList P ops (Exit.then (tA (Φ i) (F i) (fq ops a0 f n).defers o.dst w1) Q) [o] (fq ops a0 f n) w1)
  (tail : ∀ f w1, Below w0.heap.size w0 w1 → (∀ j, j < n → Φ j (f j) w1) → (∀ j k, j < n → k < n → j ≠ k → F j → F k → blk (f j) ≠ blk (f k)) → wpList P ops Q (l.drop n) (fq ops a0 f n) w1)
  (Du : ∀ f w1, Below w0.heap.size w0 w1 → (∀ j, j < n → j ≠ k → Φ j (f j) w1) → (∀ j k, j < n → k < n → j ≠ k → F j → F k → blk (f j) ≠ blk (f k)) → wpList P ops Q (on :: ok :: l.drop (n + 1)) (fq ops a0 f n) w1) :
  ∀ (fuel : Nat) (T : List Nat) (s : Array Bool) (f : Nat → Value) (w : World), T.Nodup → T.length = fuel → (∀ j, j < n → (s.getD j false = false ↔ j ∈ T)) → (∀ j ∈ T, j < n) → HeadInv md ops n s → Below w0.heap.size w0 w →
   (∀ j, j < n → s.getD j false = true → Φ j (f j) w) → (∀ j, j < n → s.getD j false = true → F j → blk (f j) < w.heap.size) →
   (∀ j k, j < n → k < n → j ≠ k → s.getD j false = true → s.getD k false = true → F j → F k → blk (f j) ≠ blk (f k)) → wpAny P md ops Q (fuel + (ops.size - n)) s (fq ops a0 f n) w := by
 simp only [OI, aM, aU] at hB;obtain ⟨⟨⟨⟨⟨⟨⟨⟨hn, hkn⟩, hs0⟩, hc⟩, ER⟩, A_⟩, ES⟩, YC⟩, Sh⟩ := hB;have hs : ∀ i, i < n → i ≠ k → ∃ j, j ≤ n ∧ i < j ∧ j ≠ k ∧ Region.waitsFor md ops j i = true := fun i hi hik => by
  have h1 := List.all_eq_true.1 hs0 i (List.mem_range.2 hi);rw [Bool.or_eq_true, aU] at h1;rcases h1 with h1 | h1
  ·
   exact absurd h1 hik
  obtain ⟨j, hj, h2⟩ := List.any_eq_true.1 h1;simp only [aM, aU] at h2;exact ⟨j, by have := List.mem_range.1 hj; omega, h2.1.1, h2.1.2, h2.2⟩
 have n_ : ∀ i o, i < n → ops[i]? = some o → o.dst.isSome = true ∧ ∀ e ∈ o.after, Region.binds md e = true → e.on < i := fun i o hi ho => by
  have := List.all_eq_true.1 ER i (List.mem_range.2 hi);rw [ho] at this;simp only [dw, bB, aM] at this;refine ⟨this.1, fun e he hb => ?_⟩;have h2 := Array.all_eq_true_iff_forall_mem.1 this.2 e he;rw [hb] at h2
  simpa using h2
 have rE : ∀ i j, i < n → j < n → i ≠ j → zX ops i ≠ zX ops j := fun i j hi hj hij => by
  have := List.all_eq_true.1 (List.all_eq_true.1 A_ i (List.mem_range.2 hi)) j (List.mem_range.2 hj)
  simpa [hij] using this
 intro fuel
 induction fuel with
 | zero =>
  intro T s f w hT hlen ll oU inv hb hΦ hF Bm;have ET : T = [] := List.length_eq_zero_iff.1 hlen;subst ET;have hall : ∀ j, j < n → s.getD j false = true := fun j hj => by
   cases h : s.getD j false with
   | true => rfl
   | false => exact absurd ((ll j hj).1 h) (by simp)
  have DZ : s = ((List.range ops.size).map fun j => decide (j < n)).toArray := by
   apply Array.ext
   ·
    simp [inv.size]
   intro j h1 h2;have ic : j < ops.size := by rw [← inv.size]; exact h1
   simp only [aW, dE, dJ]
   by_cases e : j < n
   ·
    have := hall j e;rw [bw, bD h1] at this;simp only [bB] at this;rw [this]; simp [e]
   have := inv.tail j (by omega) ic;rw [bw, bD h1] at this;simp only [bB] at this;rw [this]; simp [e]
  rw [aJ];have iw : (l.drop n).length = ops.size - n := by rw [hl]; simp
  have h3 := wpAny_of_seq (P := P) (md := md) (ops := ops) (Q' := Q) (l.drop n) n s (fq ops a0 f n) w (fun j => by rw [hl]; simp [cL]) (by rw [iw, DZ]; exact ES) (tail f w hb (fun j hj => hΦ j hj (hall j hj)) fun j k hj hk hjk => Bm j k hj hk hjk (hall j hj) (hall k hk))
  rwa [iw] at h3
 | succ fuel ih =>
  intro T s f w hT hlen ll oU inv hb hΦ hF Bm;have rF : T ≠ [] := fun e => by rw [e] at hlen; cases hlen
  obtain ⟨m, hm, hle⟩ := tV rF;have rm := oU m hm;have hun : s.getD m false = false := (ll m rm).2 hm;have Di : m < s.size := by rw [inv.size]; omega
  obtain ⟨om, Bn⟩ : ∃ o, ops[m]? = some o := ⟨_, bD (by omega)⟩
  have jq : m ∈ Region.ready md ops s := mem_ready.2 ⟨getD_in Di hun, om, Bn, fun e he jb => by
   have h1 := (n_ m om rm Bn).2 e he jb
   cases h2 : s.getD e.on false with
   | true => rfl
   | false =>
    have := hle _ ((ll e.on (by omega)).1 h2)
    omega⟩
  rw [show fuel + 1 + (ops.size - n) = (fuel + (ops.size - n)) + 1 by omega];refine ⟨fun e => absurd jq (by rw [e]; simp), fun i hi => ?_⟩;obtain ⟨CF, oi, nD, lP⟩ := mem_ready.1 hi
  by_cases L4 : n ≤ i
  ·
   -- the late one alone is left, and the Si first comes ahead of it
   have RI : i < ops.size := (Array.getElem?_eq_some_iff.1 nD).1;have Sj : i = n := Classical.byContradiction fun e => YB hc inv L4 e nD lP RI
   subst Sj;have pV : ∀ j, j < i → j ≠ k → s.getD j false = true := fun j hj hjk => by
    cases h : s.getD j false with
    | true => rfl
    | false => exact absurd hi (zFB hs hc hn inv _ j rfl hj hjk (getD_in (by rw [inv.size]; omega) h) i (ai _))
   have hku : s.getD k false = false := by
    cases h : s.getD k false with
    | false => rfl
    | true =>
     have : s.getD m false = true := by
      by_cases e : m = k
      ·
       rw [e]; exact h
      exact pV m rm e
     rw [this] at hun; cases hun
   have CJ : fuel = 0 := by
    have h1 : ∀ j ∈ T, j = k := fun j hj => by
     refine Classical.byContradiction fun e => ?_
     have h2 := (ll j (oU j hj)).2 hj;rw [pV j (oU j hj) e] at h2
     cases h2
    match T, hT, hlen, h1 with
    | [x], _, hlen, _ => simpa using hlen.symm
    | x :: y :: r, hT, _, h1 =>
     have e1 := h1 x (by simp);have e2 := h1 y (by simp);rw [e1, e2] at hT;simp at hT
   subst CJ;have hss : s.setIfInBounds i true = ((List.range ops.size).map fun j => decide (j ≤ i ∧ j ≠ k)).toArray := by
    apply Array.ext
    ·
     simp [inv.size]
    intro j h1 h2;have ic : j < ops.size := by simpa [inv.size] using h1
    have Fa : j < s.size := by rw [inv.size]; exact ic
    simp only [aW, dE, dJ];rw [Array.getElem_setIfInBounds Fa]
    by_cases e : i = j
    ·
     rw [ag e]; simp only [← e]; simp; omega
    rw [ah e]
    by_cases e2 : j < i
    ·
     by_cases e3 : j = k
     ·
      have hkk := hku;rw [← e3, bw, bD Fa] at hkk;simp only [bB] at hkk;rw [hkk]; simp [e3]
     have := pV j e2 e3;rw [bw, bD Fa] at this;simp only [bB] at this;rw [this]; simp [e3]; omega
    have := inv.tail j (by omega) ic;rw [bw, bD Fa] at this;simp only [bB] at this;rw [this]; simp; omega
   have Sk : (s.setIfInBounds i true).setIfInBounds k true = ((List.range ops.size).map fun j => decide (j ≤ i)).toArray := by
    rw [hss];apply Array.ext
    ·
     simp
    intro j h1 h2;have ic : j < ops.size := by simpa using h1
    rw [Array.getElem_setIfInBounds (by simpa using h1)];simp only [aW, dE, dJ]
    by_cases e : k = j
    ·
     rw [ag e]; subst e; simp; omega
    rw [ah e];have e' : ¬ j = k := fun e2 => e e2.symm
    simp [e']
   have ht2 := Du f w hb (fun j hj hjk => hΦ j hj (pV j hj hjk)) fun j k' hj hk' hjk Ae Eg => by
    have a1 : j ≠ k := fun e => OJ (e ▸ Ae)
    have a2 : k' ≠ k := fun e => OJ (e ▸ Eg)
    exact Bm j k' hj hk' hjk (pV j hj a1) (pV k' hk' a2) Ae Eg
   have Sd : wpOp P ops Q i (wpList P ops Q (ok :: l.drop (i + 1))) (fq ops a0 f i) w := by unfold wpOp; simp only [hon]; exact ht2
   have hg : 0 + (ops.size - i) = (ops.size - (i + 1)) + 1 := by omega
   rw [hg];refine wpOp_mono (fun a' w' h' => ?_) Sd;refine ⟨fun e => ?_, fun j hj => ?_⟩
   ·
    rw [hss, YC] at e; cases e
   rw [hss, YC] at hj;have hjk : j = k := by simpa using hj
   subst hjk;have BS : wpOp P ops Q j (wpList P ops Q (l.drop (i + 1))) a' w' := by unfold wpOp; simp only [hok]; exact h'
   refine wpOp_mono (fun a'' w'' h'' => ?_) BS;rw [Sk];have iw : (l.drop (i + 1)).length = ops.size - (i + 1) := by rw [hl]; simp
   have h3 := wpAny_of_seq (P := P) (md := md) (ops := ops) (Q' := Q) (l.drop (i + 1)) (i + 1) _ a'' w'' (fun j => by rw [hl]; simp [cL]) (by rw [iw]; exact Sh) h''
   rwa [iw] at h3
  have hin : i < n := Nat.lt_of_not_le L4;have EU : i ∈ T := (ll i hin).1 (getD_both CF);have Bp := n_ i oi hin nD;have mN : zX ops i = oi.dst := by unfold zX; rw [nD]; rfl
  unfold wpOp;rw [nD];simp only [];have hh := head i oi hin nD f w hb fun e he jb => hΦ e.on (by have := Bp.2 e he jb; omega) (lP e he jb)
  refine kT hh (fun v w' hR => ?_) (fun d v w' hR => ?_)
  ·
   obtain ⟨_, fu, hv⟩ := hR;have hval : ∀ i, i < n → oi.dst.isSome = true → zX ops i = oi.dst → (∀ t, oi.dst = some t → Φ i (((fq ops a0 f n).put oi.dst v).tmps.getD t undef) w' ∧ (F i → w.heap.size ≤ blk (((fq ops a0 f n).put oi.dst v).tmps.getD t undef) ∧ blk (((fq ops a0 f n).put oi.dst v).tmps.getD t undef) < w'.heap.size)) → Φ i v w' ∧ (F i → w.heap.size ≤ blk v ∧ blk v < w'.heap.size) := fun i hi h1 mN h => by
    obtain ⟨t, ht⟩ := Option.isSome_iff_exists.1 h1;have h4 := h t ht;have h5 : t < (fq ops a0 f n).tmps.size := by rw [uU]; exact hN i hi t (by rw [mN, ht])
    rw [ht] at h4
    simpa [Act.put, h5] using h4
   rw [← mN, tq ops a0 f i v n hin fun j hj hji => .inr (rE i j hin hj (aO hji))];refine ih (T.erase i) _ _ w' (hT.erase i) (by rw [List.length_erase_of_mem EU]; omega) (fun j hj => ?_) (fun j hj => oU j (List.mem_of_mem_erase hj)) (inv.set hi hin) (zA hb fu) (fun j hj ic => ?_) (fun j hj ic Ae => ?_) (fun j k hj hk hjk ic hks Ae Eg => ?_)
   ·
    rw [hT.mem_erase_iff]
    by_cases e : j = i
    ·
     subst e;have ic : j < s.size := by rw [inv.size]; omega
     simp [bw, ic]
    rw [bC false (aO e), ll j hj];simp [e]
   ·
    by_cases e : j = i
    ·
     subst e;have : xH f j v j = v := ag rfl;rw [this];exact (hval j hj Bp.1 mN hv).1
    have : xH f i v j = f j := ah e;rw [this];rw [bC false (aO e)] at ic;exact mono j hj _ _ _ fu (hΦ j hj ic)
   ·
    by_cases e : j = i
    ·
     subst e;have : xH f j v j = v := ag rfl;rw [this];exact ((hval j hj Bp.1 mN hv).2 Ae).2
    have : xH f i v j = f j := ah e;rw [this];rw [bC false (aO e)] at ic;exact cR (hF j hj ic Ae) fu.size
   by_cases e : j = i
   ·
    subst e;have e1 : xH f j v j = v := ag rfl;have e2 : xH f j v k = f k := ah (aO hjk);rw [e1, e2];rw [bC false hjk] at hks;have h1 := ((hval j hj Bp.1 mN hv).2 Ae).1;have h2 := hF k hk hks Eg;omega
   have e1 : xH f i v j = f j := ah e;rw [e1];rw [bC false (aO e)] at ic
   by_cases e3 : k = i
   ·
    subst e3;have e2 : xH f k v k = v := ag rfl;rw [e2];have h1 := ((hval k hk Bp.1 mN hv).2 Eg).1;have h2 := hF j hj ic Ae;omega
   have e2 : xH f i v k = f k := ah e3;rw [e2];rw [bC false (aO e3)] at hks;exact Bm j k hj hk hjk ic hks Ae Eg
  have h1 := hR.1;have h2 := aT List.length h1
  cases EV : oi.dst <;> simp [Act.put, EV] at h2
theorem xJ {id : Nat} {a0 : Act} {w : World} {l : List Oper} (L : List lQ) (F : List Nat) (N k : Nat) {on ok : Oper} (hm : P.follows .mixedOrders = true) (hB : OI .any l.toArray L.length k = true) (hon : l.toArray[L.length]? = some on) (hok : l.toArray[k]? = some ok) (OJ : k ∉ F)
  (hsz : a0.tmps.size = N) (hN : Ly l.toArray L.length N = true) {fr : (Nat → Value) → Act} (pI : ∀ f, fq l.toArray a0 f L.length = fr f)
  (head : Lz P Q l.toArray L F fr w l L 0)
  (tail : ∀ f w1, Below w.heap.size w w1 → (∀ j, j < L.length → (oV L j).p (f j) w1) → (∀ j k, j < L.length → k < L.length → j ≠ k → j ∈ F → k ∈ F → blk (f j) ≠ blk (f k)) → wpList P l.toArray Q (l.drop L.length) (fr f) w1)
  (Du : ∀ f w1, Below w.heap.size w w1 → (∀ j, j < L.length → j ≠ k → (oV L j).p (f j) w1) → (∀ j k, j < L.length → k < L.length → j ≠ k → j ∈ F → k ∈ F → blk (f j) ≠ blk (f k)) → wpList P l.toArray Q (on :: ok :: l.drop (L.length + 1)) (fr f) w1) : (Code.region id l.toArray true).wp P Q a0 w := by
 have hn : L.length < l.toArray.size := by
  simp only [OI, aM, aU] at hB;exact hB.1.1.1.1.1.1.1.1
 refine wp_region_any hm ?_;have h := zIU (k := k) (md := .any) (Q := Q) (P := P) (n := L.length) (a0 := a0) (w0 := w) (Φ := fun j => (oV L j).p) (F := fun j => j ∈ F) rfl hB hon hok OJ
  (fun i hi t ht => by
   have h1 := List.all_eq_true.1 hN i (List.mem_range.2 hi)
   rw [ht] at h1
   rw [hsz]
   simpa using h1)
  (fun j _ v w1 w2 hb h => (oV L j).m v w1 w2 hb h)
  (fun i o hi ho f w1 hb hd => by
   rw [pI]
   have hS : L[i]? = some (oV L i) := by
    unfold oV
    rw [ax, aB hi]; rfl
   have h2 := kx l L 0 head i o (oV L i) (by simpa using ho) hS f w1 hb (fun j hj => by
    unfold EW at hj
    obtain ⟨e, he, h3⟩ := Array.any_eq_true'.1 hj
    simp only [aM, cw] at h3
    rw [← h3.2]
    exact hd e he h3.1)
   rwa [aJ] at h2)
  (fun f w1 hb hΦ Bm => by rw [pI]; exact tail f w1 hb hΦ Bm)
  (fun f w1 hb hΦ Bm => by rw [pI]; exact Du f w1 hb hΦ Bm)
  L.length (List.range L.length) (Array.replicate l.toArray.size false) (fun j => match zX l.toArray j with | some d => a0.tmps.getD d undef | none => undef) w.drew
  List.nodup_range (by simp) (fun j hj => by rw [aZ]; simp [hj]) (fun j hj => by simpa using hj)
  ⟨by simp, fun j oj _ hl => (by rw [aZ] at hl; cases hl), fun t _ ht => getD_in (by simpa using ht) (aZ _ _)⟩
  (zz (aj _ _)) (fun j _ hl => by rw [aZ] at hl; cases hl) (fun j _ hl => by rw [aZ] at hl; cases hl) (fun j k _ _ _ hl => by rw [aZ] at hl; cases hl)
 have e0 : fq l.toArray a0 (fun j => match zX l.toArray j with | some d => a0.tmps.getD d undef | none => undef) L.length = a0 := JM _ _ _;rw [e0, show L.length + (l.toArray.size - L.length) = l.toArray.size by omega] at h;exact h
end
end Go.Proofs.YtcgfilmmokmdjaaGreat
