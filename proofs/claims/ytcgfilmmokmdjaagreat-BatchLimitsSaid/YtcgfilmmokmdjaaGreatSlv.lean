/- A part of the walk. -/
import Derived.Test.YtcgfilmmokmdjaaGreatQAO
import Derived.Test.YtcgfilmmokmdjaaGreatQAM
import Derived.Test.YtcgfilmmokmdjaaGreatQAJ
set_option linter.all false
set_option maxRecDepth 100000
set_option maxHeartbeats 32000000
namespace Go.Proofs.YtcgfilmmokmdjaaGreat
open Go.RowKit
theorem zH9 : ∀ {a b : Bool}, a = b → (a = true ∧ b = true) ∨ (a = false ∧ b = false) := by decide
theorem zCG (w : World) : Calls Tryz.prog 28 #[.int .i64 4096] w fun e w' => e = .returned (.int .i64 4120) ∧ Below w.heap.size w w' :=
 (zCX 4096 w).mono fun _ _ ⟨he, hw⟩ => ⟨he.trans rfl, hw ▸ Below.refl _ _⟩
theorem zK2 (w : World) : Calls Tryz.prog 28 #[.int .i64 0] w fun e w' => e = .returned (.int .i64 24) ∧ Below w.heap.size w w' :=
 (zCX 0 w).mono fun _ _ ⟨he, hw⟩ => ⟨he.trans rfl, hw ▸ Below.refl _ _⟩
theorem zEv (i l : Int) (r : Bool) (a : Option Addr) (n c : Nat) (w : World) (hA : ¬ (0 ≤ i ∧ i < 4 ∧ 4136 ≤ l ∧ l ≤ 262144 ∧ 1 ≤ n ∧ n ≤ 8)) :
  Calls Tryz.prog 76 #[zhq i l r a n c] w fun e w' => e = .returned (.bool false) ∧ Below w.heap.size w w' := by
 have HZ := zh (fun W => zCG W);have HBx := zh (BoxV.new w i l r a n c 31);have HB0 := zh (zP w i l r a n c 31);have hc : i < 0 ∨ (0 ≤ i ∧ 4 ≤ i) ∨ (0 ≤ i ∧ i < 4 ∧ l < 4136) ∨ (0 ≤ i ∧ i < 4 ∧ 4136 ≤ l ∧ 262144 < l) ∨ (0 ≤ i ∧ i < 4 ∧ 4136 ≤ l ∧ l ≤ 262144 ∧ n < 1) ∨ (0 ≤ i ∧ i < 4 ∧ 4136 ≤ l ∧ l ≤ 262144 ∧ 1 ≤ n ∧ 8 < n) := by omega
 clear hA
 go_enter Tryz.func76, Tryz.ntmps76
 go_upto_region 1 with fail;obtain ⟨W, hW⟩ : ∃ W, w.alloc (.cells (zS i l r a n c) 31) = W := ⟨_, rfl⟩
 change Code.wp _ _ _ _ (w.alloc (.cells (zS i l r a n c) 31));rw [hW] at HBx HB0 ⊢;have hlw := HBx.out.lt;have y3 := HBx.out.c3;clear hW;go_upto_region 2 with fail;clear y3;have k0 := zC HBx.out.c0;have k1 := zC HBx.out.c1;rcases hc with h1 | ⟨h1, h2⟩ | ⟨h1, h2, h3⟩ | ⟨h1, h2, h3, h4⟩ | ⟨h1, h2, h3, h4, h5⟩ | ⟨h1, h2, h3, h4, h5, h6⟩
 ·
  have e0 : decide (i < 0) = true := by simp; omega
  refine zB (by kernel_rfl) (by kernel_rfl) ?_
  repeat (go_big_quiet_step ((exact zI (HZ.out _))))
  refine wpQuiet_nil ?_;intro _ hw';obtain ⟨q, hw'⟩ := hw';subst hw';have HQ := zh (zA HB0.out q.h);clear k0 k1;go_wp2_with fail;go_ret;exact ⟨rfl, HQ.out⟩
 ·
  have e0 : decide (i < 0) = false := by simp; omega
  have e1 : decide (4 ≤ i) = true := by simp; omega
  refine zB (by kernel_rfl) (by kernel_rfl) ?_
  repeat (go_big_quiet_step ((exact zI (HZ.out _))))
  refine wpQuiet_nil ?_;intro _ hw';obtain ⟨q, hw'⟩ := hw';subst hw';have HQ := zh (zA HB0.out q.h);clear k0 k1;go_wp2_with fail;go_ret;exact ⟨rfl, HQ.out⟩
 ·
  have e0 : decide (i < 0) = false := by simp; omega
  have e1 : decide (4 ≤ i) = false := by simp; omega
  have e2 : decide (l < 4136) = true := by simp; omega
  refine zB (by kernel_rfl) (by kernel_rfl) ?_
  repeat (go_big_quiet_step ((exact zI (HZ.out _))))
  refine wpQuiet_nil ?_;intro _ hw';obtain ⟨q, hw'⟩ := hw';subst hw';have HQ := zh (zA HB0.out q.h);clear k0 k1;go_wp2_with fail;go_ret;exact ⟨rfl, HQ.out⟩
 ·
  have e0 : decide (i < 0) = false := by simp; omega
  have e1 : decide (4 ≤ i) = false := by simp; omega
  have e2 : decide (l < 4136) = false := by simp; omega
  have e3 : decide (262144 < l) = true := by simp; omega
  refine zB (by kernel_rfl) (by kernel_rfl) ?_
  repeat (go_big_quiet_step ((exact zI (HZ.out _))))
  refine wpQuiet_nil ?_;intro _ hw';obtain ⟨q, hw'⟩ := hw';subst hw';have HQ := zh (zA HB0.out q.h);clear k0 k1;go_wp2_with fail;go_ret;exact ⟨rfl, HQ.out⟩
 ·
  have e0 : decide (i < 0) = false := by simp; omega
  have e1 : decide (4 ≤ i) = false := by simp; omega
  have e2 : decide (l < 4136) = false := by simp; omega
  have e3 : decide (262144 < l) = false := by simp; omega
  have e4 : decide ((n : Int) < 1) = true := by simp; omega
  refine zB (by kernel_rfl) (by kernel_rfl) ?_
  repeat (go_big_quiet_step ((exact zI (HZ.out _))))
  refine wpQuiet_nil ?_;intro _ hw';obtain ⟨q, hw'⟩ := hw';subst hw';have HQ := zh (zA HB0.out q.h);clear k0 k1;go_wp2_with fail;go_ret;exact ⟨rfl, HQ.out⟩
 have e0 : decide (i < 0) = false := by simp; omega
 have e1 : decide (4 ≤ i) = false := by simp; omega
 have e2 : decide (l < 4136) = false := by simp; omega
 have e3 : decide (262144 < l) = false := by simp; omega
 have e4 : decide ((n : Int) < 1) = false := by simp; omega
 have e5 : decide ((8 : Int) < (n : Int)) = true := by simp; omega
 refine zB (by kernel_rfl) (by kernel_rfl) ?_
 repeat (go_big_quiet_step ((exact zI (HZ.out _))))
 refine wpQuiet_nil ?_;intro _ hw';obtain ⟨q, hw'⟩ := hw';subst hw';have HQ := zh (zA HB0.out q.h);clear k0 k1;go_wp2_with fail;go_ret;exact ⟨rfl, HQ.out⟩
theorem zEI (i l : Int) (r : Bool) (a : Option Addr) (n c : Nat) (L : List GP) (w : World) (hA : 0 ≤ i ∧ i < 4 ∧ 4136 ≤ l ∧ l ≤ 262144) (hn : 1 ≤ n ∧ n ≤ 8)
  (h : RdG w (.slice a n c) L) (hs : ∀ p ∈ L, ∀ j, j < 8 → (p.1.m.st j).length ≤ 10000) :
  Calls Tryz.prog 76 #[zhq i l r a n c] w fun e w' => e = .returned (.bool (zg ⟨i, l, r, gns L⟩)) ∧ Below w.heap.size w w' := by
 have HZ := zh (fun W => zCG W);have HZ0 := zh (fun W => zK2 W);have HBx := zh (BoxV.new w i l r a n c 31);have HB0 := zh (zP w i l r a n c 31);have hLn : L.length = n := by
  obtain ⟨_, _, e, _⟩ := h.shape;injection e with _ e _; exact e.symm
 have HR := zh h;have HS := zh hs;have HLn := zh hLn;have HNo := zh (fun k (hk : k < n) (h : ¬ okG ⟨i, l, r, gns L⟩ k) => zB2 (s := ⟨i, l, r, gns L⟩) (by show k < (gns L).length; rw [zz, hLn]; exact hk) h)
 have HYes := zh (fun (h : ∀ k, k < n → okG ⟨i, l, r, gns L⟩ k) => show zg ⟨i, l, r, gns L⟩ = decide ((pat L (n - 1)).1.size + (((zG (pat L (n - 1)).1.m).length * 24 : Nat) : Int) ≤ 2 * l) from by
  rw [Bool.eq_iff_iff, zT, decide_eq_true_eq]
  have hl : (gns L).length = n := by rw [zz, hLn]
  constructor
  ·
   intro h
   have := h.top
   simp only [xD, hl] at this
   exact this
  intro ht
  refine ⟨⟨hA.1, hA.2.1⟩, hA.2.2, by rw [hl]; exact hn, fun k hk => h k (by rw [hl] at hk; exact hk), ?_⟩
  simp only [xD, hl]
  exact ht)
 have HOk := zh (fun k => show okG ⟨i, l, r, gns L⟩ k ↔ (wJ (pat L k).1 = true ∧ (0 < k → (pat L (k - 1)).1.num < (pat L k).1.num) ∧ ((pat L k).1.mode = 1 ↔ k + 1 = n) ∧ (pat L k).1.size ≤ 2 * l) from by
  unfold okG
  simp only [xD, zz, hLn])
 generalize zg ⟨i, l, r, gns L⟩ = res at *;generalize hok : okG ⟨i, l, r, gns L⟩ = ok at *;clear hok;obtain ⟨h1, h2, h3, h4⟩ := hA;obtain ⟨hn1, hn8⟩ := hn;clear h hs hLn
 go_enter Tryz.func76, Tryz.ntmps76
 go_upto_region 1 with fail;obtain ⟨W, hW⟩ : ∃ W, w.alloc (.cells (zS i l r a n c) 31) = W := ⟨_, rfl⟩
 change Code.wp _ _ _ _ (w.alloc (.cells (zS i l r a n c) 31));rw [hW] at HBx HB0 ⊢;have hlw := HBx.out.lt;have y3 := HBx.out.c3;clear hW;go_upto_region 2 with fail;clear y3;have k0 := zC HBx.out.c0;have k1 := zC HBx.out.c1;have e0 : decide (i < 0) = false := by simp; omega
 have e1 : decide (4 ≤ i) = false := by simp; omega
 have e2 : decide (l < 4136) = false := by simp; omega
 have e3 : decide (262144 < l) = false := by simp; omega
 have e4 : decide ((n : Int) < 1) = false := by simp; omega
 have e5 : decide ((8 : Int) < (n : Int)) = false := by simp; omega
 refine zB (by kernel_rfl) (by kernel_rfl) ?_
 repeat (go_big_quiet_step ((exact zI (HZ.out _))))
 refine wpQuiet_nil ?_;intro _ hw';obtain ⟨q, hw'⟩ := hw';subst hw';have HQ := zh (zA HB0.out q.h);have HX := zh (HBx.out.below q.h);generalize q.w' = w1 at *;clear k0 k1 e0 e1 e2 e3 e4 e5 HZ HBx HB0;have hlX := HX.out.lt;have HR1 := zh (HR.out.below HQ.out);go_wp2_with fail
 go_loopw [4] (fun x wr => ∃ k : Nat, k ≤ n ∧ x = .int .i64 (k : Int) ∧ (∀ j, j < k → ok j) ∧ Below w1.heap.size w1 wr) (fun x _ => n - (intOf x).toNat)
 case atStart => exact ⟨0, Nat.zero_le _, rfl, fun j hj => absurd hj (by omega), Below.refl _ _⟩
 obtain ⟨k, hk, rfl, hoks, hb⟩ := hrel;have Hoks := zh hoks;have Hb := zh hb;have hbs := hb.size;clear hoks hb;have HXr := zh (HX.out.below Hb.out);have HRr := zh (HR1.out.below Hb.out)
 by_cases hlt : k < n
 ·
  obtain ⟨b, off, rfl, hg⟩ := HRr.out.at hlt;have hmem := xI (l := L) (i := k) (by rw [HLn.out]; exact hlt);have HMp := zh (HRr.out.m _ hmem);have HV := zh (fun W (hb : Below wr.heap.size wr W) => vU (pat L k).1 (pat L k).2 W (HMp.out.below hb) (HS.out _ hmem));have HOk1 := zh (HOk.out k);have HPr := zh (fun j (hj : j < n) => (HRr.out.at2 hj).n0);clear hmem HMp;generalize pat L k = p at *;obtain ⟨⟨num, rev, md, sz, f, LV, GA⟩, s⟩ := p;dsimp only at HV HOk1 hg;generalize wJ ⟨num, rev, md, sz, f, LV, GA⟩ = vb at *;obtain ⟨g0, g1, g2, g3, g4, g5, g6, g7, g8, g9, g10, g11, g12, g13⟩ := hg;dsimp only at g0 g1 g2 g3 g4 g5 g6 g7 g8 g9 g10 g11 g12 g13;have x3 := HXr.out.c3;have HXg := zh (BoxG.new wr num rev md sz s LV GA 113);have HBg := zh (zZ wr num rev md sz s LV GA 113);go_upto_region 8 with fail;change Code.wp _ _ _ _ (wr.alloc (.cells (zX num rev md sz s LV GA) 113))
  obtain ⟨W, hW⟩ : ∃ W, wr.alloc (.cells (zX num rev md sz s LV GA) 113) = W := ⟨_, rfl⟩
  rw [hW] at HXg HBg ⊢;have HbW := zh (bup Hb.out hbs HBg.out);have hleW := Nat.le_trans hbs HBg.out.size;have hlW := HXg.out.lt;have HXW := zh (HXr.out.below HBg.out);have hlX2 := HXW.out.lt;have HVW := zh (fun W' (hb : Below W.heap.size W W') => HV.out W' (zA HBg.out hb));have HPW := zh (fun j (hj : j < n) => Below.keeps HBg.out _ _ (HPr.out j hj));clear hW g0 g1 g2 g3 g4 g5 g6 g7 g8 g9 g10 g11 g12 g13 x3 HV HPr HXr;obtain ⟨bl, e7, hbl⟩ : ∃ bl, ((k : Int) == (n : Int) - 1) = bl ∧ (bl = true ↔ k + 1 = n) := ⟨_, rfl, by rw [beq_iff_eq]; omega⟩
  obtain ⟨bm, e8, hbm⟩ : ∃ bm, (md == 1) = bm ∧ (bm = true ↔ md = 1) := ⟨_, rfl, by rw [beq_iff_eq]⟩
  have HBm := zh hbm;have HBl := zh hbl;clear hbm hbl;obtain ⟨bx, e9, hbx⟩ : ∃ bx, (bm != bl) = bx ∧ (bx = false ↔ bm = bl) := ⟨_, rfl, by cases bm <;> cases bl <;> decide⟩
  have j1 : IntKind.i64.wrap ((n : Int) - 1) = (n : Int) - 1 := IntWalk.i64_in _ (by omega);have j2 : IntKind.i64.wrap (2 * l) = 2 * l := IntWalk.i64_in _ (by omega);have y3 := HXW.out.c3;go_wp2_with fail;clear y3;have m0 := zC HXg.out.n0;have m1 := zC HXg.out.n1;have m2 := zC HXg.out.n2;have m3 := zC HXg.out.n3;have m4 := zC HXg.out.c0;have m5 := zC HXg.out.c1;have m6 := zC HXg.out.c2;have m7 := zC HXg.out.c3;have m8 := zC HXg.out.c4;have m9 := zC HXg.out.c5;have m10 := zC HXg.out.c6;have m11 := zC HXg.out.c7;have m12 := zC HXg.out.cl;have m13 := zC HXg.out.cg;have v1 := zC HXW.out.c1;have v3 := zC HXW.out.c3
  cases vb
  ·
   refine zB (by kernel_rfl) (by kernel_rfl) ?_
   repeat (go_big_quiet_step ((exact zI (HVW.out _ (BelowBy.h _)))))
   refine wpQuiet_nil ?_;intro _ hw';obtain ⟨q, hw'⟩ := hw';subst hw';have HQ2 := zh (bup HbW.out hleW q.h);generalize q.w' = W2 at *;clear m0 m1 m2 m3 m4 m5 m6 m7 m8 m9 m10 m11 m12 m13 v1 v3;go_wp2_with fail;go_ret;exact ⟨zE (HNo.out k hlt fun h => by have := (HOk1.out.1 h).1; cases this).symm, zA HQ.out HQ2.out⟩
  cases bx
  ·
   have hbx2 := zh (show bm = bl from hbx.1 rfl);rcases zH9 hbx2.out with ⟨rfl, rfl⟩ | ⟨rfl, rfl⟩
   ·
    as_aux_lemma =>
    clear e9 hbx
    by_cases hk0 : k = 0
    ·
     have e0 : decide ((0 : Int) < (k : Int)) = false := by simp; omega
     have e7z : ((0 : Int) == (n : Int) - 1) = true := by rw [← e7, hk0]; rfl
     have e0n : decide (0 < k) = false := by rw [hk0]; rfl
     have HK0 := zh hk0;clear hk0
     by_cases hsz : 2 * l < sz
     ·
      have e10 : decide (2 * l < sz) = true := by simp; omega
      refine zB (by kernel_rfl) (by kernel_rfl) ?_
      repeat (go_big_quiet_step ((exact zI (HVW.out _ (BelowBy.h _)))))
      refine wpQuiet_nil ?_;intro _ hw';obtain ⟨q, hw'⟩ := hw';subst hw';have HQ2 := zh (bup HbW.out hleW q.h);generalize q.w' = W2 at *;clear m0 m1 m2 m3 m4 m5 m6 m7 m8 m9 m10 m11 m12 m13 v1 v3;go_wp2_with fail;go_ret;exact ⟨zE (HNo.out k hlt fun h => by have := (HOk1.out.1 h).2.2.2; omega).symm, zA HQ.out HQ2.out⟩
     have e10 : decide (2 * l < sz) = false := by simp; omega
     have HSz := zh (show sz ≤ 2 * l by omega);refine zB (by kernel_rfl) (by kernel_rfl) ?_
     repeat (go_big_quiet_step ((exact zI (HVW.out _ (BelowBy.h _)))))
     refine wpQuiet_nil ?_;intro _ hw';obtain ⟨q, hw'⟩ := hw';subst hw';have HQ2 := zh (bup HbW.out hleW q.h);generalize q.w' = W2 at *;clear m0 m1 m2 m3 m4 m5 m6 m7 m8 m9 m10 m11 m12 m13 v1 v3;go_wp2_with fail
     exact ⟨⟨k + 1, by omega, by go_num, fun j' hj => by
      by_cases e : j' = k
      ·
       rw [e]; exact HOk1.out.2 ⟨rfl, fun h => absurd h (by have := HK0.out; omega), by rw [← HBm.out, ← HBl.out], HSz.out⟩
      exact Hoks.out j' (by omega), HQ2.out⟩, by simp [intOf]; omega⟩
    obtain ⟨j, rfl⟩ : ∃ j, k = j + 1 := ⟨k - 1, by omega⟩
    have e0 : decide ((0 : Int) < ((j + 1 : Nat) : Int)) = true := by simp
    have e7j : ((j : Int) + 1 == (n : Int) - 1) = true := e7;have p0 := zC (HPW.out j (by omega));have HPj : j + 1 - 1 = j := by omega
    rw [HPj] at HOk1;generalize (pat L j).1.num = pn at *;have i1 : (j : Int) + 1 < (n : Int) := by omega
    have i2 : (j : Int) < (n : Int) := by omega
    have j3 : IntKind.i64.wrap (j : Int) = (j : Int) := IntWalk.i64_in _ (by omega)
    by_cases hpn : num ≤ pn
    ·
     have e11 : decide (num ≤ pn) = true := by simp; omega
     refine zB (by kernel_rfl) (by kernel_rfl) ?_
     repeat (go_big_quiet_step ((exact zI (HVW.out _ (BelowBy.h _)))))
     refine wpQuiet_nil ?_;intro _ hw';obtain ⟨q, hw'⟩ := hw';subst hw';have HQ2 := zh (bup HbW.out hleW q.h);generalize q.w' = W2 at *;clear m0 m1 m2 m3 m4 m5 m6 m7 m8 m9 m10 m11 m12 m13 v1 v3;go_wp2_with fail;go_ret;exact ⟨zE (HNo.out (j + 1) hlt fun h => by have := (HOk1.out.1 h).2.1 (by omega); omega).symm, zA HQ.out HQ2.out⟩
    have e11 : decide (num ≤ pn) = false := by simp; omega
    have HPn := zh (show pn < num by omega)
    by_cases hsz : 2 * l < sz
    ·
     have e10 : decide (2 * l < sz) = true := by simp; omega
     refine zB (by kernel_rfl) (by kernel_rfl) ?_
     repeat (go_big_quiet_step ((exact zI (HVW.out _ (BelowBy.h _)))))
     refine wpQuiet_nil ?_;intro _ hw';obtain ⟨q, hw'⟩ := hw';subst hw';have HQ2 := zh (bup HbW.out hleW q.h);generalize q.w' = W2 at *;clear m0 m1 m2 m3 m4 m5 m6 m7 m8 m9 m10 m11 m12 m13 v1 v3;go_wp2_with fail;go_ret;exact ⟨zE (HNo.out (j + 1) hlt fun h => by have := (HOk1.out.1 h).2.2.2; omega).symm, zA HQ.out HQ2.out⟩
    have e10 : decide (2 * l < sz) = false := by simp; omega
    have HSz := zh (show sz ≤ 2 * l by omega);refine zB (by kernel_rfl) (by kernel_rfl) ?_
    repeat (go_big_quiet_step ((exact zI (HVW.out _ (BelowBy.h _)))))
    refine wpQuiet_nil ?_;intro _ hw';obtain ⟨q, hw'⟩ := hw';subst hw';have HQ2 := zh (bup HbW.out hleW q.h);generalize q.w' = W2 at *;clear m0 m1 m2 m3 m4 m5 m6 m7 m8 m9 m10 m11 m12 m13 v1 v3;go_wp2_with fail
    exact ⟨⟨j + 1 + 1, by omega, by go_num, fun j' hj => by
     by_cases e : j' = (j + 1)
     ·
      rw [e]; exact HOk1.out.2 ⟨rfl, fun _ => HPn.out, by rw [← HBm.out, ← HBl.out], HSz.out⟩
     exact Hoks.out j' (by omega), HQ2.out⟩, by simp [intOf]; omega⟩
   as_aux_lemma =>
   clear e9 hbx
   by_cases hk0 : k = 0
   ·
    have e0 : decide ((0 : Int) < (k : Int)) = false := by simp; omega
    have e7z : ((0 : Int) == (n : Int) - 1) = false := by rw [← e7, hk0]; rfl
    have e0n : decide (0 < k) = false := by rw [hk0]; rfl
    have HK0 := zh hk0;clear hk0
    by_cases hsz : 2 * l < sz
    ·
     have e10 : decide (2 * l < sz) = true := by simp; omega
     refine zB (by kernel_rfl) (by kernel_rfl) ?_
     repeat (go_big_quiet_step ((exact zI (HVW.out _ (BelowBy.h _)))))
     refine wpQuiet_nil ?_;intro _ hw';obtain ⟨q, hw'⟩ := hw';subst hw';have HQ2 := zh (bup HbW.out hleW q.h);generalize q.w' = W2 at *;clear m0 m1 m2 m3 m4 m5 m6 m7 m8 m9 m10 m11 m12 m13 v1 v3;go_wp2_with fail;go_ret;exact ⟨zE (HNo.out k hlt fun h => by have := (HOk1.out.1 h).2.2.2; omega).symm, zA HQ.out HQ2.out⟩
    have e10 : decide (2 * l < sz) = false := by simp; omega
    have HSz := zh (show sz ≤ 2 * l by omega);refine zB (by kernel_rfl) (by kernel_rfl) ?_
    repeat (go_big_quiet_step ((exact zI (HVW.out _ (BelowBy.h _)))))
    refine wpQuiet_nil ?_;intro _ hw';obtain ⟨q, hw'⟩ := hw';subst hw';have HQ2 := zh (bup HbW.out hleW q.h);generalize q.w' = W2 at *;clear m0 m1 m2 m3 m4 m5 m6 m7 m8 m9 m10 m11 m12 m13 v1 v3;go_wp2_with fail
    exact ⟨⟨k + 1, by omega, by go_num, fun j' hj => by
     by_cases e : j' = k
     ·
      rw [e]; exact HOk1.out.2 ⟨rfl, fun h => absurd h (by have := HK0.out; omega), by rw [← HBm.out, ← HBl.out], HSz.out⟩
     exact Hoks.out j' (by omega), HQ2.out⟩, by simp [intOf]; omega⟩
   obtain ⟨j, rfl⟩ : ∃ j, k = j + 1 := ⟨k - 1, by omega⟩
   have e0 : decide ((0 : Int) < ((j + 1 : Nat) : Int)) = true := by simp
   have e7j : ((j : Int) + 1 == (n : Int) - 1) = false := e7;have p0 := zC (HPW.out j (by omega));have HPj : j + 1 - 1 = j := by omega
   rw [HPj] at HOk1;generalize (pat L j).1.num = pn at *;have i1 : (j : Int) + 1 < (n : Int) := by omega
   have i2 : (j : Int) < (n : Int) := by omega
   have j3 : IntKind.i64.wrap (j : Int) = (j : Int) := IntWalk.i64_in _ (by omega)
   by_cases hpn : num ≤ pn
   ·
    have e11 : decide (num ≤ pn) = true := by simp; omega
    refine zB (by kernel_rfl) (by kernel_rfl) ?_
    repeat (go_big_quiet_step ((exact zI (HVW.out _ (BelowBy.h _)))))
    refine wpQuiet_nil ?_;intro _ hw';obtain ⟨q, hw'⟩ := hw';subst hw';have HQ2 := zh (bup HbW.out hleW q.h);generalize q.w' = W2 at *;clear m0 m1 m2 m3 m4 m5 m6 m7 m8 m9 m10 m11 m12 m13 v1 v3;go_wp2_with fail;go_ret;exact ⟨zE (HNo.out (j + 1) hlt fun h => by have := (HOk1.out.1 h).2.1 (by omega); omega).symm, zA HQ.out HQ2.out⟩
   have e11 : decide (num ≤ pn) = false := by simp; omega
   have HPn := zh (show pn < num by omega)
   by_cases hsz : 2 * l < sz
   ·
    have e10 : decide (2 * l < sz) = true := by simp; omega
    refine zB (by kernel_rfl) (by kernel_rfl) ?_
    repeat (go_big_quiet_step ((exact zI (HVW.out _ (BelowBy.h _)))))
    refine wpQuiet_nil ?_;intro _ hw';obtain ⟨q, hw'⟩ := hw';subst hw';have HQ2 := zh (bup HbW.out hleW q.h);generalize q.w' = W2 at *;clear m0 m1 m2 m3 m4 m5 m6 m7 m8 m9 m10 m11 m12 m13 v1 v3;go_wp2_with fail;go_ret;exact ⟨zE (HNo.out (j + 1) hlt fun h => by have := (HOk1.out.1 h).2.2.2; omega).symm, zA HQ.out HQ2.out⟩
   have e10 : decide (2 * l < sz) = false := by simp; omega
   have HSz := zh (show sz ≤ 2 * l by omega);refine zB (by kernel_rfl) (by kernel_rfl) ?_
   repeat (go_big_quiet_step ((exact zI (HVW.out _ (BelowBy.h _)))))
   refine wpQuiet_nil ?_;intro _ hw';obtain ⟨q, hw'⟩ := hw';subst hw';have HQ2 := zh (bup HbW.out hleW q.h);generalize q.w' = W2 at *;clear m0 m1 m2 m3 m4 m5 m6 m7 m8 m9 m10 m11 m12 m13 v1 v3;go_wp2_with fail
   exact ⟨⟨j + 1 + 1, by omega, by go_num, fun j' hj => by
    by_cases e : j' = (j + 1)
    ·
     rw [e]; exact HOk1.out.2 ⟨rfl, fun _ => HPn.out, by rw [← HBm.out, ← HBl.out], HSz.out⟩
    exact Hoks.out j' (by omega), HQ2.out⟩, by simp [intOf]; omega⟩
  have hbx2 := zh (show bm ≠ bl from fun h => by cases hbx.2 h);rcases zAh hbx2.out with ⟨rfl, rfl⟩ | ⟨rfl, rfl⟩
  ·
   as_aux_lemma =>
   clear e9 hbx;refine zB (by kernel_rfl) (by kernel_rfl) ?_
   repeat (go_big_quiet_step ((exact zI (HVW.out _ (BelowBy.h _)))))
   refine wpQuiet_nil ?_;intro _ hw';obtain ⟨q, hw'⟩ := hw';subst hw';have HQ2 := zh (bup HbW.out hleW q.h);generalize q.w' = W2 at *;clear m0 m1 m2 m3 m4 m5 m6 m7 m8 m9 m10 m11 m12 m13 v1 v3;go_wp2_with fail;go_ret
   exact ⟨zE (HNo.out k hlt fun h => by
     have h5 := (HOk1.out.1 h).2.2.1
     rw [← HBm.out, ← HBl.out] at h5
     simp at h5).symm, zA HQ.out HQ2.out⟩
  as_aux_lemma =>
  clear e9 hbx;refine zB (by kernel_rfl) (by kernel_rfl) ?_
  repeat (go_big_quiet_step ((exact zI (HVW.out _ (BelowBy.h _)))))
  refine wpQuiet_nil ?_;intro _ hw';obtain ⟨q, hw'⟩ := hw';subst hw';have HQ2 := zh (bup HbW.out hleW q.h);generalize q.w' = W2 at *;clear m0 m1 m2 m3 m4 m5 m6 m7 m8 m9 m10 m11 m12 m13 v1 v3;go_wp2_with fail;go_ret
  exact ⟨zE (HNo.out k hlt fun h => by
    have h5 := (HOk1.out.1 h).2.2.1
    rw [← HBm.out, ← HBl.out] at h5
    simp at h5).symm, zA HQ.out HQ2.out⟩
 as_aux_lemma =>
 obtain rfl : k = n := by omega
 have HF := zh (HYes.out Hoks.out);obtain ⟨j, rfl⟩ : ∃ j, k = j + 1 := ⟨k - 1, by omega⟩
 have HPj : j + 1 - 1 = j := by omega
 rw [HPj] at HF;obtain ⟨b, off, rfl, hg⟩ := HRr.out.at (show j < j + 1 by omega);have hmem := xI (l := L) (i := j) (by rw [HLn.out]; omega);have HMp := zh (HRr.out.m _ hmem);have HV := zh (fun W (hb : Below wr.heap.size wr W) => zGC (pat L j).2 (pat L j).1.m W (HMp.out.below hb) (HS.out _ hmem));have hil : (zG (pat L j).1.m).length ≤ 80000 := xw (HS.out _ hmem);have hsz := ((HOk.out j).1 (Hoks.out j (by omega))).2.2.2;have hvg := ((yD _).1 ((HOk.out j).1 (Hoks.out j (by omega))).1).size.1;clear hmem HMp HYes HNo HOk Hoks HS;generalize (zG (pat L j).1.m).length = len at *;generalize pat L j = p at *;obtain ⟨⟨num, rev, md, sz, f, LV, GA⟩, s⟩ := p;dsimp only at HV HF hg hsz hvg;obtain ⟨g0, g1, g2, g3, g4, g5, g6, g7, g8, g9, g10, g11, g12, g13⟩ := hg;dsimp only at g0 g1 g2 g3 g4 g5 g6 g7 g8 g9 g10 g11 g12 g13;have x3 := HXr.out.c3;have HXg := zh (BoxG.new wr num rev md sz s LV GA 113)
 have HBg := zh (zZ wr num rev md sz s LV GA 113);have j3 : IntKind.i64.wrap (j : Int) = (j : Int) := IntWalk.i64_in _ (by omega);have i1 : (j : Int) + 1 < ((j + 1 : Nat) : Int) + 1 := by omega
 have i2 : (j : Int) < ((j + 1 : Nat) : Int) := by omega
 go_upto_region 11 with fail;change Code.wp _ _ _ _ (wr.alloc (.cells (zX num rev md sz s LV GA) 113));obtain ⟨W, hW⟩ : ∃ W, wr.alloc (.cells (zX num rev md sz s LV GA) 113) = W := ⟨_, rfl⟩
 rw [hW] at HXg HBg ⊢;have HbW := zh (bup Hb.out hbs HBg.out);have hleW := Nat.le_trans hbs HBg.out.size;have hlW := HXg.out.lt;have HXW := zh (HXr.out.below HBg.out);have HVW := zh (fun W' (hb : Below W.heap.size W W') => HV.out W' (zA HBg.out hb));clear hW g0 g1 g2 g3 g4 g5 g6 g7 g8 g9 g10 g11 g12 g13 x3 HV HXr;have j2 : IntKind.i64.wrap (2 * l) = 2 * l := IntWalk.i64_in _ (by omega);have j4 : IntKind.i64.wrap (24 * (len : Int)) = 24 * (len : Int) := IntWalk.i64_in _ (by omega);have j5 : IntKind.i64.wrap (sz + 24 * (len : Int)) = sz + 24 * (len : Int) := IntWalk.i64_in _ (by omega);have m3 := zC HXg.out.n3;have m4 := zC HXg.out.c0;have m5 := zC HXg.out.c1;have m6 := zC HXg.out.c2;have m7 := zC HXg.out.c3;have m8 := zC HXg.out.c4;have m9 := zC HXg.out.c5;have m10 := zC HXg.out.c6;have m11 := zC HXg.out.c7;have m12 := zC HXg.out.cl;have m13 := zC HXg.out.cg;have v1 := zC HXW.out.c1
 refine zB (by kernel_rfl) (by kernel_rfl) ?_
 repeat (go_big_quiet_step ((first | exact zI (HVW.out _ (BelowBy.h _)) | exact zI (HZ0.out _))))
 refine wpQuiet_nil ?_;intro _ hw';obtain ⟨q, hw'⟩ := hw';subst hw';have HQ2 := zh (bup HbW.out hleW q.h);generalize q.w' = W2 at *;clear m3 m4 m5 m6 m7 m8 m9 m10 m11 m12 m13 v1;go_wp2_with fail;go_ret;exact ⟨zE (by rw [HF.out]; congr 1; rw [eq_iff_iff]; push_cast; omega), zA HQ.out HQ2.out⟩
theorem xC (i l : Int) (r : Bool) (a : Option Addr) (n c : Nat) (L : List GP) (w : World) (h : RdG w (.slice a n c) L) (hs : ∀ p ∈ L, ∀ j, j < 8 → (p.1.m.st j).length ≤ 10000) :
  Calls Tryz.prog 76 #[zhq i l r a n c] w fun e w' => e = .returned (.bool (zg ⟨i, l, r, gns L⟩)) ∧ Below w.heap.size w w' := by
 have hLn : L.length = n := by
  obtain ⟨_, _, e, _⟩ := h.shape;injection e with _ e _; exact e.symm
 by_cases hA : 0 ≤ i ∧ i < 4 ∧ 4136 ≤ l ∧ l ≤ 262144 ∧ 1 ≤ n ∧ n ≤ 8
 ·
  exact zEI i l r a n c L w ⟨hA.1, hA.2.1, hA.2.2.1, hA.2.2.2.1⟩ hA.2.2.2.2 h hs
 have hf : zg ⟨i, l, r, gns L⟩ = false := th fun hv => hA ⟨hv.id.1, hv.id.2, hv.lim.1, hv.lim.2, by have := hv.len; rw [zz, hLn] at this; exact this⟩
 rw [hf];exact zEv i l r a n c w hA
end Go.Proofs.YtcgfilmmokmdjaaGreat
