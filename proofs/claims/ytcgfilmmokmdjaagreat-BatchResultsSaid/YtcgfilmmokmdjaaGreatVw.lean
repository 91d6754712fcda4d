/- A part of the walk. -/
import Derived.Test.YtcgfilmmokmdjaaGreatQAL
set_option linter.all false
set_option maxRecDepth 100000
set_option maxHeartbeats 32000000
namespace Go.Proofs.YtcgfilmmokmdjaaGreat
open Go.RowKit
theorem Rn : ∀ {a b : Bool}, a ≠ b → (a = true ∧ b = false) ∨ (a = false ∧ b = true) := by decide
theorem zFX (i l : Int) (r : Bool) (a : Option Addr) (n c : Nat) (w : World) (hA : 0 ≤ i ∧ i < 4 ∧ 4136 ≤ l ∧ l ≤ 262144) (hn : n < 1 ∨ 8 < n) :
  Calls Tryz.prog 47 #[zZ i l r a n c] w fun e w' => e = .returned (.bool false) ∧ Below w.heap.size w w' := by
 have HZ := zh (fun W => Rm W);have eE := zh (eT.new w i l r a n c 27);have eD := zh (zN w i l r a n c 27);obtain ⟨h1, h2, h3, h4⟩ := hA
 go_enter Tryz.func47, Tryz.ntmps47
 go_upto_region 1 with fail;obtain ⟨W, hW⟩ : ∃ W, w.alloc (.cells (zK i l r a n c) 27) = W := ⟨_, rfl⟩
 change Code.wp _ _ _ _ (w.alloc (.cells (zK i l r a n c) 27));rw [hW] at eE eD ⊢;have rE := eE.out.lt;have k0 := zB eE.out.c0;have k1 := zB eE.out.c1;clear hW;have e1 : decide (i < 0) = false := by simp; omega
 have e2 : decide (4 ≤ i) = false := by simp; omega
 have e3 : decide (l < 4136) = false := by simp; omega
 have e4 : decide (262144 < l) = false := by simp; omega
 refine zC (by kernel_rfl) (by kernel_rfl) ?_
 repeat (go_big_quiet_step ((exact zG (HZ.out _))))
 refine aC ?_;intro _ hw';obtain ⟨q, hw'⟩ := hw';subst hw';have HQ := zh (zA eD.out q.h);have HX := zh (eE.out.below q.h);generalize q.w' = w1 at *;have k3 := HX.out.c3;clear k0 k1 e1 e2 e3 e4 HZ eE eD;rcases hn with h | h
 ·
  have e5 : decide ((n : Int) < 1) = true := by simp; omega
  go_wp2_with fail;go_ret;exact ⟨rfl, HQ.out⟩
 have e5 : decide ((n : Int) < 1) = false := by simp; omega
 have e6 : decide ((8 : Int) < (n : Int)) = true := by simp; omega
 go_wp2_with fail;go_ret;exact ⟨rfl, HQ.out⟩
theorem zFV (i l : Int) (r : Bool) (a : Option Addr) (n c : Nat) (L : List GP) (w : World) (hA : 0 ≤ i ∧ i < 4 ∧ 4136 ≤ l ∧ l ≤ 262144) (hn : 1 ≤ n ∧ n ≤ 8)
  (h : fq w (.slice a n c) L) (hs : ∀ p ∈ L, ∀ j, j < 8 → (p.1.m.st j).length ≤ 10000) :
  Calls Tryz.prog 47 #[zZ i l r a n c] w fun e w' => e = .returned (.bool (zg ⟨i, l, r, dZ L⟩)) ∧ Below w.heap.size w w' := by
 have HZ := zh (fun W => Rm W);have Ro := zh (fun W => zL6 W);have eE := zh (eT.new w i l r a n c 27);have eD := zh (zN w i l r a n c 27);have fR : L.length = n := by
  obtain ⟨_, _, e, _⟩ := h.shape;injection e with _ e _; exact e.symm
 have HR := zh h;have HS := zh hs;have iN := zh fR;have iR := zh (fun k (hk : k < n) (h : ¬ Bg ⟨i, l, r, dZ L⟩ k) => Wv (s := ⟨i, l, r, dZ L⟩) (by show k < (dZ L).length; rw [zj, fR]; exact hk) h)
 have jo := zh (fun (h : ∀ k, k < n → Bg ⟨i, l, r, dZ L⟩ k) => show zg ⟨i, l, r, dZ L⟩ = decide ((pat L (n - 1)).1.size + (((zI (pat L (n - 1)).1.m).length * 24 : Nat) : Int) ≤ 2 * l) from by
  rw [dw, zR, aT]
  have hl : (dZ L).length = n := by rw [zj, fR]
  constructor
  ·
   intro h
   have := h.top
   simp only [yu, hl] at this
   exact this
  intro ht
  refine ⟨⟨hA.1, hA.2.1⟩, hA.2.2, by rw [hl]; exact hn, fun k hk => h k (by rw [hl] at hk; exact hk), ?_⟩
  simp only [yu, hl]
  exact ht)
 have pW := zh (fun k => show Bg ⟨i, l, r, dZ L⟩ k ↔ (wB (pat L k).1 = true ∧ (0 < k → (pat L (k - 1)).1.num < (pat L k).1.num) ∧ ((pat L k).1.mode = 1 ↔ k + 1 = n) ∧ (pat L k).1.size ≤ 2 * l) from by
  unfold Bg
  simp only [yu, zj, fR])
 generalize zg ⟨i, l, r, dZ L⟩ = res at *;generalize hok : Bg ⟨i, l, r, dZ L⟩ = ok at *;clear hok;obtain ⟨h1, h2, h3, h4⟩ := hA;obtain ⟨Ae, mZ⟩ := hn;clear h hs fR
 go_enter Tryz.func47, Tryz.ntmps47
 go_upto_region 1 with fail;obtain ⟨W, hW⟩ : ∃ W, w.alloc (.cells (zK i l r a n c) 27) = W := ⟨_, rfl⟩
 change Code.wp _ _ _ _ (w.alloc (.cells (zK i l r a n c) 27));rw [hW] at eE eD ⊢;have rE := eE.out.lt;have k0 := zB eE.out.c0;have k1 := zB eE.out.c1;clear hW;have e1 : decide (i < 0) = false := by simp; omega
 have e2 : decide (4 ≤ i) = false := by simp; omega
 have e3 : decide (l < 4136) = false := by simp; omega
 have e4 : decide (262144 < l) = false := by simp; omega
 refine zC (by kernel_rfl) (by kernel_rfl) ?_
 repeat (go_big_quiet_step ((exact zG (HZ.out _))))
 refine aC ?_;intro _ hw';obtain ⟨q, hw'⟩ := hw';subst hw';have HQ := zh (zA eD.out q.h);have HX := zh (eE.out.below q.h);generalize q.w' = w1 at *;have k3 := HX.out.c3;clear k0 k1 e1 e2 e3 e4 HZ eE eD;have G1 := HX.out.lt;have eY := zh (HR.out.below HQ.out);have e5 : decide ((n : Int) < 1) = false := by simp; omega
 have e6 : decide ((8 : Int) < (n : Int)) = false := by simp; omega
 go_wp2_with fail;clear k3
 go_loopw [40] (fun x wr => ∃ k : Nat, k ≤ n ∧ x = .int .i64 (k : Int) ∧ (∀ j, j < k → ok j) ∧ Below w1.heap.size w1 wr) (fun x _ => n - (intOf x).toNat)
 case atStart => exact ⟨0, au _, rfl, fun j hj => absurd hj (by omega), aj _ _⟩
 obtain ⟨k, hk, rfl, Df, hb⟩ := hrel;have l8 := zh Df;have Hb := zh hb;have o8 := hb.size;clear Df hb;have lj := zh (HX.out.below Hb.out);have ig := zh (eY.out.below Hb.out)
 by_cases hlt : k < n
 ·
  obtain ⟨b, off, rfl, hg⟩ := ig.out.at hlt;have hmem := yd (l := L) (i := k) (by rw [iN.out]; exact hlt);have l9 := zh (ig.out.m _ hmem);have HV := zh (fun W (hb : Below wr.heap.size wr W) => vW (pat L k).1 (pat L k).2 W (l9.out.below hb) (HS.out _ hmem));have gT := zh (pW.out k);have nM := zh (fun j (hj : j < n) => (ig.out.Lj hj).n0);clear hmem l9;generalize pat L k = p at *;obtain ⟨⟨num, rev, md, sz, f, LV, GA⟩, s⟩ := p;dsimp only at HV gT hg;generalize wB ⟨num, rev, md, sz, f, LV, GA⟩ = vb at *;obtain ⟨g0, g1, g2, g3, g4, g5, g6, g7, g8, g9, g10, g11, g12, g13⟩ := hg;dsimp only at g0 g1 g2 g3 g4 g5 g6 g7 g8 g9 g10 g11 g12 g13;have x3 := lj.out.c3;have iE := zh (eA.new wr num rev md sz s LV GA 38);have mG := zh (zQ wr num rev md sz s LV GA 38);go_upto_region 8 with fail;change Code.wp _ _ _ _ (wr.alloc (.cells (zW num rev md sz s LV GA) 38))
  obtain ⟨W, hW⟩ : ∃ W, wr.alloc (.cells (zW num rev md sz s LV GA) 38) = W := ⟨_, rfl⟩
  rw [hW] at iE mG ⊢;have jK := zh (iP Hb.out o8 mG.out);have gV := ak o8 mG.out.size;have Rp := iE.out.lt;have BZ := zh (lj.out.below mG.out);have Rs := BZ.out.lt;have mQ := zh (fun W' (hb : Below W.heap.size W W') => HV.out W' (zA mG.out hb));have NT := zh (fun j (hj : j < n) => Below.keeps mG.out _ _ (nM.out j hj));clear hW g0 g1 g2 g3 g4 g5 g6 g7 g8 g9 g10 g11 g12 g13 x3 HV nM lj;obtain ⟨bl, e7, hbl⟩ : ∃ bl, ((k : Int) == (n : Int) - 1) = bl ∧ (bl = true ↔ k + 1 = n) := ⟨_, rfl, by rw [cz]; omega⟩
  obtain ⟨bm, e8, FL⟩ : ∃ bm, (md == 1) = bm ∧ (bm = true ↔ md = 1) := ⟨_, rfl, by rw [cz]⟩
  have B4 := zh FL;have rH := zh hbl;clear FL hbl;obtain ⟨bx, e9, fc⟩ : ∃ bx, (bm != bl) = bx ∧ (bx = false ↔ bm = bl) := ⟨_, rfl, by cases bm <;> cases bl <;> decide⟩
  have j1 : IntKind.i64.wrap ((n : Int) - 1) = (n : Int) - 1 := aH _ (by omega);have j2 : IntKind.i64.wrap (2 * l) = 2 * l := aH _ (by omega);have y3 := BZ.out.c3;go_wp2_with fail;clear y3;have m0 := zB iE.out.n0;have m1 := zB iE.out.n1;have m2 := zB iE.out.n2;have m3 := zB iE.out.n3;have m4 := zB iE.out.c0;have m5 := zB iE.out.c1;have m6 := zB iE.out.c2;have m7 := zB iE.out.c3;have m8 := zB iE.out.c4;have m9 := zB iE.out.c5;have m10 := zB iE.out.c6;have m11 := zB iE.out.c7;have m12 := zB iE.out.cl;have m13 := zB iE.out.cg;have v1 := zB BZ.out.c1;have v3 := zB BZ.out.c3
  cases vb
  ·
   refine zC (by kernel_rfl) (by kernel_rfl) ?_
   repeat (go_big_quiet_step ((exact zG (mQ.out _ (dY.h _)))))
   refine aC ?_;intro _ hw';obtain ⟨q, hw'⟩ := hw';subst hw';have gR := zh (iP jK.out gV q.h);generalize q.w' = W2 at *;clear m0 m1 m2 m3 m4 m5 m6 m7 m8 m9 m10 m11 m12 m13 v1 v3;go_wp2_with fail;go_ret;exact ⟨zE (iR.out k hlt fun h => by have := (gT.out.1 h).1; cases this).symm, zA HQ.out gR.out⟩
  by_cases hk0 : k = 0
  ·
   have e0 : decide ((0 : Int) < (k : Int)) = false := by simp; omega
   cases bx
   ·
    have oA : bm = bl := fc.1 rfl
    by_cases hsz : 2 * l < sz
    ·
     have rI : decide (2 * l < sz) = true := by simp; omega
     refine zC (by kernel_rfl) (by kernel_rfl) ?_
     repeat (go_big_quiet_step ((exact zG (mQ.out _ (dY.h _)))))
     refine aC ?_;intro _ hw';obtain ⟨q, hw'⟩ := hw';subst hw';have gR := zh (iP jK.out gV q.h);generalize q.w' = W2 at *;clear m0 m1 m2 m3 m4 m5 m6 m7 m8 m9 m10 m11 m12 m13 v1 v3;go_wp2_with fail;go_ret;exact ⟨zE (iR.out k hlt fun h => by have := (gT.out.1 h).2.2.2; omega).symm, zA HQ.out gR.out⟩
    have rI : decide (2 * l < sz) = false := by simp; omega
    have iC := zh (show sz ≤ 2 * l by omega);refine zC (by kernel_rfl) (by kernel_rfl) ?_
    repeat (go_big_quiet_step ((exact zG (mQ.out _ (dY.h _)))))
    refine aC ?_;intro _ hw';obtain ⟨q, hw'⟩ := hw';subst hw';have gR := zh (iP jK.out gV q.h);generalize q.w' = W2 at *;clear m0 m1 m2 m3 m4 m5 m6 m7 m8 m9 m10 m11 m12 m13 v1 v3;go_wp2_with fail
    exact ⟨⟨k + 1, by omega, by go_num, fun j hj => by
     by_cases e : j = k
     ·
      rw [e]; exact gT.out.2 ⟨rfl, fun h => absurd h (by omega), by rw [← B4.out, ← rH.out, oA], iC.out⟩
     exact l8.out j (by omega), gR.out⟩, by simp [intOf]; omega⟩
   have oA := zh (show bm ≠ bl from fun h => by cases fc.2 h);rcases Rn oA.out with ⟨rfl, rfl⟩ | ⟨rfl, rfl⟩
   ·
    clear e9 fc;refine zC (by kernel_rfl) (by kernel_rfl) ?_
    repeat (go_big_quiet_step ((exact zG (mQ.out _ (dY.h _)))))
    refine aC ?_;intro _ hw';obtain ⟨q, hw'⟩ := hw';subst hw';have gR := zh (iP jK.out gV q.h);generalize q.w' = W2 at *;clear m0 m1 m2 m3 m4 m5 m6 m7 m8 m9 m10 m11 m12 m13 v1 v3;go_wp2_with fail;go_ret
    exact ⟨zE (iR.out k hlt fun h => by
       have h5 := (gT.out.1 h).2.2.1
       rw [← B4.out, ← rH.out] at h5
       simp at h5).symm, zA HQ.out gR.out⟩
   clear e9 fc;refine zC (by kernel_rfl) (by kernel_rfl) ?_
   repeat (go_big_quiet_step ((exact zG (mQ.out _ (dY.h _)))))
   refine aC ?_;intro _ hw';obtain ⟨q, hw'⟩ := hw';subst hw';have gR := zh (iP jK.out gV q.h);generalize q.w' = W2 at *;clear m0 m1 m2 m3 m4 m5 m6 m7 m8 m9 m10 m11 m12 m13 v1 v3;go_wp2_with fail;go_ret
   exact ⟨zE (iR.out k hlt fun h => by
      have h5 := (gT.out.1 h).2.2.1
      rw [← B4.out, ← rH.out] at h5
      simp at h5).symm, zA HQ.out gR.out⟩
  obtain ⟨j, rfl⟩ : ∃ j, k = j + 1 := ⟨k - 1, by omega⟩
  have e0 : decide ((0 : Int) < ((j + 1 : Nat) : Int)) = true := by simp
  have p0 := zB (NT.out j (by omega));have CB : j + 1 - 1 = j := by omega
  rw [CB] at gT;generalize (pat L j).1.num = pn at *;have i1 : (j : Int) + 1 < (n : Int) := by omega
  have i2 : (j : Int) < (n : Int) := by omega
  have j3 : IntKind.i64.wrap (j : Int) = (j : Int) := aH _ (by omega)
  by_cases Xv : num ≤ pn
  ·
   have e11 : decide (num ≤ pn) = true := by simp; omega
   refine zC (by kernel_rfl) (by kernel_rfl) ?_
   repeat (go_big_quiet_step ((exact zG (mQ.out _ (dY.h _)))))
   refine aC ?_;intro _ hw';obtain ⟨q, hw'⟩ := hw';subst hw';have gR := zh (iP jK.out gV q.h);generalize q.w' = W2 at *;clear m0 m1 m2 m3 m4 m5 m6 m7 m8 m9 m10 m11 m12 m13 v1 v3;go_wp2_with fail;go_ret;exact ⟨zE (iR.out (j + 1) hlt fun h => by have := (gT.out.1 h).2.1 (by omega); omega).symm, zA HQ.out gR.out⟩
  have e11 : decide (num ≤ pn) = false := by simp; omega
  have lD := zh (show pn < num by omega)
  cases bx
  ·
   have oA : bm = bl := fc.1 rfl
   by_cases hsz : 2 * l < sz
   ·
    have rI : decide (2 * l < sz) = true := by simp; omega
    refine zC (by kernel_rfl) (by kernel_rfl) ?_
    repeat (go_big_quiet_step ((exact zG (mQ.out _ (dY.h _)))))
    refine aC ?_;intro _ hw';obtain ⟨q, hw'⟩ := hw';subst hw';have gR := zh (iP jK.out gV q.h);generalize q.w' = W2 at *;clear m0 m1 m2 m3 m4 m5 m6 m7 m8 m9 m10 m11 m12 m13 v1 v3;go_wp2_with fail;go_ret;exact ⟨zE (iR.out (j + 1) hlt fun h => by have := (gT.out.1 h).2.2.2; omega).symm, zA HQ.out gR.out⟩
   have rI : decide (2 * l < sz) = false := by simp; omega
   have iC := zh (show sz ≤ 2 * l by omega);refine zC (by kernel_rfl) (by kernel_rfl) ?_
   repeat (go_big_quiet_step ((exact zG (mQ.out _ (dY.h _)))))
   refine aC ?_;intro _ hw';obtain ⟨q, hw'⟩ := hw';subst hw';have gR := zh (iP jK.out gV q.h);generalize q.w' = W2 at *;clear m0 m1 m2 m3 m4 m5 m6 m7 m8 m9 m10 m11 m12 m13 v1 v3;go_wp2_with fail
   exact ⟨⟨j + 1 + 1, by omega, by go_num, fun j' hj => by
    by_cases e : j' = j + 1
    ·
     rw [e]; exact gT.out.2 ⟨rfl, fun _ => lD.out, by rw [← B4.out, ← rH.out, oA], iC.out⟩
    exact l8.out j' (by omega), gR.out⟩, by simp [intOf]; omega⟩
  have oA := zh (show bm ≠ bl from fun h => by cases fc.2 h);rcases Rn oA.out with ⟨rfl, rfl⟩ | ⟨rfl, rfl⟩
  ·
   clear e9 fc;refine zC (by kernel_rfl) (by kernel_rfl) ?_
   repeat (go_big_quiet_step ((exact zG (mQ.out _ (dY.h _)))))
   refine aC ?_;intro _ hw';obtain ⟨q, hw'⟩ := hw';subst hw';have gR := zh (iP jK.out gV q.h);generalize q.w' = W2 at *;clear m0 m1 m2 m3 m4 m5 m6 m7 m8 m9 m10 m11 m12 m13 v1 v3;go_wp2_with fail;go_ret
   exact ⟨zE (iR.out (j + 1) hlt fun h => by
     have h5 := (gT.out.1 h).2.2.1
     rw [← B4.out, ← rH.out] at h5
     simp at h5).symm, zA HQ.out gR.out⟩
  clear e9 fc;refine zC (by kernel_rfl) (by kernel_rfl) ?_
  repeat (go_big_quiet_step ((exact zG (mQ.out _ (dY.h _)))))
  refine aC ?_;intro _ hw';obtain ⟨q, hw'⟩ := hw';subst hw';have gR := zh (iP jK.out gV q.h);generalize q.w' = W2 at *;clear m0 m1 m2 m3 m4 m5 m6 m7 m8 m9 m10 m11 m12 m13 v1 v3;go_wp2_with fail;go_ret
  exact ⟨zE (iR.out (j + 1) hlt fun h => by
    have h5 := (gT.out.1 h).2.2.1
    rw [← B4.out, ← rH.out] at h5
    simp at h5).symm, zA HQ.out gR.out⟩
 obtain rfl : k = n := by omega
 have HF := zh (jo.out l8.out);obtain ⟨j, rfl⟩ : ∃ j, k = j + 1 := ⟨k - 1, by omega⟩
 have CB : j + 1 - 1 = j := by omega
 rw [CB] at HF;obtain ⟨b, off, rfl, hg⟩ := ig.out.at (show j < j + 1 by omega);have hmem := yd (l := L) (i := j) (by rw [iN.out]; omega);have l9 := zh (ig.out.m _ hmem);have HV := zh (fun W (hb : Below wr.heap.size wr W) => zJt (pat L j).2 (pat L j).1.m W (l9.out.below hb) (HS.out _ hmem));have hil : (zI (pat L j).1.m).length ≤ 80000 := wK (HS.out _ hmem);have hsz := ((pW.out j).1 (l8.out j (by omega))).2.2.2;have Rt := ((yD _).1 ((pW.out j).1 (l8.out j (by omega))).1).size.1;clear hmem l9 jo iR pW l8 HS;generalize (zI (pat L j).1.m).length = len at *;generalize pat L j = p at *;obtain ⟨⟨num, rev, md, sz, f, LV, GA⟩, s⟩ := p;dsimp only at HV HF hg hsz Rt;obtain ⟨g0, g1, g2, g3, g4, g5, g6, g7, g8, g9, g10, g11, g12, g13⟩ := hg;dsimp only at g0 g1 g2 g3 g4 g5 g6 g7 g8 g9 g10 g11 g12 g13;have x3 := lj.out.c3;have iE := zh (eA.new wr num rev md sz s LV GA 38)
 have mG := zh (zQ wr num rev md sz s LV GA 38);have j3 : IntKind.i64.wrap (j : Int) = (j : Int) := aH _ (by omega);have i1 : (j : Int) + 1 < ((j + 1 : Nat) : Int) + 1 := by omega
 have i2 : (j : Int) < ((j + 1 : Nat) : Int) := by omega
 go_upto_region 13 with fail;change Code.wp _ _ _ _ (wr.alloc (.cells (zW num rev md sz s LV GA) 38));obtain ⟨W, hW⟩ : ∃ W, wr.alloc (.cells (zW num rev md sz s LV GA) 38) = W := ⟨_, rfl⟩
 rw [hW] at iE mG ⊢;have jK := zh (iP Hb.out o8 mG.out);have gV := ak o8 mG.out.size;have Rp := iE.out.lt;have BZ := zh (lj.out.below mG.out);have mQ := zh (fun W' (hb : Below W.heap.size W W') => HV.out W' (zA mG.out hb));clear hW g0 g1 g2 g3 g4 g5 g6 g7 g8 g9 g10 g11 g12 g13 x3 HV lj;have j2 : IntKind.i64.wrap (2 * l) = 2 * l := aH _ (by omega);have j4 : IntKind.i64.wrap ((len : Int) * 24) = (len : Int) * 24 := aH _ (by omega);have j5 : IntKind.i64.wrap (sz + (len : Int) * 24) = sz + (len : Int) * 24 := aH _ (by omega);have m3 := zB iE.out.n3;have m4 := zB iE.out.c0;have m5 := zB iE.out.c1;have m6 := zB iE.out.c2;have m7 := zB iE.out.c3;have m8 := zB iE.out.c4;have m9 := zB iE.out.c5;have m10 := zB iE.out.c6;have m11 := zB iE.out.c7;have m12 := zB iE.out.cl;have m13 := zB iE.out.cg;have v1 := zB BZ.out.c1;refine zC (by kernel_rfl) (by kernel_rfl) ?_
 repeat (go_big_quiet_step ((first | exact zG (mQ.out _ (dY.h _)) | exact zG (Ro.out _))))
 refine aC ?_;intro _ hw';obtain ⟨q, hw'⟩ := hw';subst hw';have gR := zh (iP jK.out gV q.h);generalize q.w' = W2 at *;clear m3 m4 m5 m6 m7 m8 m9 m10 m11 m12 m13 v1;go_wp2_with fail;go_ret;exact ⟨zE (by rw [HF.out]; congr 1), zA HQ.out gR.out⟩
end Go.Proofs.YtcgfilmmokmdjaaGreat
