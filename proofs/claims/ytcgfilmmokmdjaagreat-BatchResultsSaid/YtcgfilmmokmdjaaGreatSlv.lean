/- A part of the walk. -/
import Derived.Test.YtcgfilmmokmdjaaGreatQAM
import Derived.Test.YtcgfilmmokmdjaaGreatQAK
import Derived.Test.YtcgfilmmokmdjaaGreatQAI
set_option maxRecDepth 100000
set_option maxHeartbeats 32000000
namespace Go.Proofs.YtcgfilmmokmdjaaGreat
open Go.RowKit
theorem zIf : ∀ {a b : Bool}, a = b → (a = true ∧ b = true) ∨ (a = false ∧ b = false) := by decide
theorem Ya (w : World) : Calls Tryz.prog 28 #[.int .i64 4096] w fun e w' => e = .returned (.int .i64 4120) ∧ Below w.heap.size w w' :=
 (NK 4096 w).mono fun _ _ ⟨he, hw⟩ => ⟨he.trans rfl, hw ▸ aj _ _⟩
theorem zLY (w : World) : Calls Tryz.prog 28 #[.int .i64 0] w fun e w' => e = .returned (.int .i64 24) ∧ Below w.heap.size w w' :=
 (NK 0 w).mono fun _ _ ⟨he, hw⟩ => ⟨he.trans rfl, hw ▸ aj _ _⟩
theorem zFU (i l : Int) (r : Bool) (a : Option Addr) (n c : Nat) (w : World) (hA : ¬ (0 ≤ i ∧ i < 4 ∧ 4136 ≤ l ∧ l ≤ 262144 ∧ 1 ≤ n ∧ n ≤ 8)) :
  Calls Tryz.prog 76 #[zZ i l r a n c] w fun e w' => e = .returned (.bool false) ∧ Below w.heap.size w w' := by
 have HZ := zh (fun W => Ya W);have eB := zh (eQ.new w i l r a n c 31);have eA := zh (zN w i l r a n c 31);have hc : i < 0 ∨ (0 ≤ i ∧ 4 ≤ i) ∨ (0 ≤ i ∧ i < 4 ∧ l < 4136) ∨ (0 ≤ i ∧ i < 4 ∧ 4136 ≤ l ∧ 262144 < l) ∨ (0 ≤ i ∧ i < 4 ∧ 4136 ≤ l ∧ l ≤ 262144 ∧ n < 1) ∨ (0 ≤ i ∧ i < 4 ∧ 4136 ≤ l ∧ l ≤ 262144 ∧ 1 ≤ n ∧ 8 < n) := by omega
 clear hA
 go_enter Tryz.func76, Tryz.ntmps76
 go_upto_region 1 with fail;obtain ⟨W, hW⟩ : ∃ W, w.alloc (.cells (zK i l r a n c) 31) = W := ⟨_, rfl⟩
 change Code.wp _ _ _ _ (w.alloc (.cells (zK i l r a n c) 31));rw [hW] at eB eA ⊢;have rD := eB.out.lt;have y3 := eB.out.c3;clear hW;go_upto_region 2 with fail;clear y3;have k0 := zB eB.out.c0;have k1 := zB eB.out.c1;rcases hc with h1 | ⟨h1, h2⟩ | ⟨h1, h2, h3⟩ | ⟨h1, h2, h3, h4⟩ | ⟨h1, h2, h3, h4, h5⟩ | ⟨h1, h2, h3, h4, h5, h6⟩
 ·
  have e0 : decide (i < 0) = true := by simp; omega
  refine zC (by kernel_rfl) (by kernel_rfl) ?_
  repeat (go_big_quiet_step ((exact zG (HZ.out _))))
  refine aC ?_;intro _ dY;obtain ⟨q, dY⟩ := dY;subst dY;have HQ := zh (zA eA.out q.h);clear k0 k1;go_wp2_with fail;go_ret;exact ⟨rfl, HQ.out⟩
 ·
  have e0 : decide (i < 0) = false := by simp; omega
  have e1 : decide (4 ≤ i) = true := by simp; omega
  refine zC (by kernel_rfl) (by kernel_rfl) ?_
  repeat (go_big_quiet_step ((exact zG (HZ.out _))))
  refine aC ?_;intro _ dY;obtain ⟨q, dY⟩ := dY;subst dY;have HQ := zh (zA eA.out q.h);clear k0 k1;go_wp2_with fail;go_ret;exact ⟨rfl, HQ.out⟩
 ·
  have e0 : decide (i < 0) = false := by simp; omega
  have e1 : decide (4 ≤ i) = false := by simp; omega
  have e2 : decide (l < 4136) = true := by simp; omega
  refine zC (by kernel_rfl) (by kernel_rfl) ?_
  repeat (go_big_quiet_step ((exact zG (HZ.out _))))
  refine aC ?_;intro _ dY;obtain ⟨q, dY⟩ := dY;subst dY;have HQ := zh (zA eA.out q.h);clear k0 k1;go_wp2_with fail;go_ret;exact ⟨rfl, HQ.out⟩
 ·
  have e0 : decide (i < 0) = false := by simp; omega
  have e1 : decide (4 ≤ i) = false := by simp; omega
  have e2 : decide (l < 4136) = false := by simp; omega
  have e3 : decide (262144 < l) = true := by simp; omega
  refine zC (by kernel_rfl) (by kernel_rfl) ?_
  repeat (go_big_quiet_step ((exact zG (HZ.out _))))
  refine aC ?_;intro _ dY;obtain ⟨q, dY⟩ := dY;subst dY;have HQ := zh (zA eA.out q.h);clear k0 k1;go_wp2_with fail;go_ret;exact ⟨rfl, HQ.out⟩
 ·
  have e0 : decide (i < 0) = false := by simp; omega
  have e1 : decide (4 ≤ i) = false := by simp; omega
  have e2 : decide (l < 4136) = false := by simp; omega
  have e3 : decide (262144 < l) = false := by simp; omega
  have e4 : decide ((n : Int) < 1) = true := by simp; omega
  refine zC (by kernel_rfl) (by kernel_rfl) ?_
  repeat (go_big_quiet_step ((exact zG (HZ.out _))))
  refine aC ?_;intro _ dY;obtain ⟨q, dY⟩ := dY;subst dY;have HQ := zh (zA eA.out q.h);clear k0 k1;go_wp2_with fail;go_ret;exact ⟨rfl, HQ.out⟩
 have e0 : decide (i < 0) = false := by simp; omega
 have e1 : decide (4 ≤ i) = false := by simp; omega
 have e2 : decide (l < 4136) = false := by simp; omega
 have e3 : decide (262144 < l) = false := by simp; omega
 have e4 : decide ((n : Int) < 1) = false := by simp; omega
 have e5 : decide ((8 : Int) < (n : Int)) = true := by simp; omega
 refine zC (by kernel_rfl) (by kernel_rfl) ?_
 repeat (go_big_quiet_step ((exact zG (HZ.out _))))
 refine aC ?_;intro _ dY;obtain ⟨q, dY⟩ := dY;subst dY;have HQ := zh (zA eA.out q.h);clear k0 k1;go_wp2_with fail;go_ret;exact ⟨rfl, HQ.out⟩
theorem zEn (i l : Int) (r : Bool) (a : Option Addr) (n c : Nat) (L : List GP) (w : World) (hA : 0 ≤ i ∧ i < 4 ∧ 4136 ≤ l ∧ l ≤ 262144) (hn : 1 ≤ n ∧ n ≤ 8)
  (h : fl w (.slice a n c) L) (hs : ∀ p ∈ L, ∀ j, j < 8 → (p.1.m.st j).length ≤ 10000) :
  Calls Tryz.prog 76 #[zZ i l r a n c] w fun e w' => e = .returned (.bool (zg ⟨i, l, r, dV L⟩)) ∧ Below w.heap.size w w' := by
 have HZ := zh (fun W => Ya W);have RO := zh (fun W => zLY W);have eB := zh (eQ.new w i l r a n c 31);have eA := zh (zN w i l r a n c 31);have fN : L.length = n := by
  obtain ⟨_, _, e, _⟩ := h.shape;injection e with _ e _; exact e.symm
 have HR := zh h;have HS := zh hs;have iM := zh fN;have iQ := zh (fun k (hk : k < n) (h : ¬ Bi ⟨i, l, r, dV L⟩ k) => WN (s := ⟨i, l, r, dV L⟩) (by show k < (dV L).length; rw [zj, fN]; exact hk) h)
 have jo := zh (fun (h : ∀ k, k < n → Bi ⟨i, l, r, dV L⟩ k) => show zg ⟨i, l, r, dV L⟩ = decide ((pat L (n - 1)).1.size + (((zI (pat L (n - 1)).1.m).length * 24 : Nat) : Int) ≤ 2 * l) from by
  rw [dh, zR, aU]
  have hl : (dV L).length = n := by rw [zj, fN]
  constructor
  ·
   intro h
   have := h.top
   simp only [yu, hl] at this
   exact this
  intro ht
  refine ⟨⟨hA.1, hA.2.1⟩, hA.2.2, by rw [hl]; exact hn, fun k hk => h k (by rw [hl] at hk; exact hk), ?_⟩
  simp only [yu, hl]
  exact ht)
 have pQ := zh (fun k => show Bi ⟨i, l, r, dV L⟩ k ↔ (wB (pat L k).1 = true ∧ (0 < k → (pat L (k - 1)).1.num < (pat L k).1.num) ∧ ((pat L k).1.mode = 1 ↔ k + 1 = n) ∧ (pat L k).1.size ≤ 2 * l) from by
  unfold Bi
  simp only [yu, zj, fN])
 generalize zg ⟨i, l, r, dV L⟩ = res at *;generalize hok : Bi ⟨i, l, r, dV L⟩ = ok at *;clear hok;obtain ⟨h1, h2, h3, h4⟩ := hA;obtain ⟨Ag, mX⟩ := hn;clear h hs fN
 go_enter Tryz.func76, Tryz.ntmps76
 go_upto_region 1 with fail;obtain ⟨W, hW⟩ : ∃ W, w.alloc (.cells (zK i l r a n c) 31) = W := ⟨_, rfl⟩
 change Code.wp _ _ _ _ (w.alloc (.cells (zK i l r a n c) 31));rw [hW] at eB eA ⊢;have rD := eB.out.lt;have y3 := eB.out.c3;clear hW;go_upto_region 2 with fail;clear y3;have k0 := zB eB.out.c0;have k1 := zB eB.out.c1;have e0 : decide (i < 0) = false := by simp; omega
 have e1 : decide (4 ≤ i) = false := by simp; omega
 have e2 : decide (l < 4136) = false := by simp; omega
 have e3 : decide (262144 < l) = false := by simp; omega
 have e4 : decide ((n : Int) < 1) = false := by simp; omega
 have e5 : decide ((8 : Int) < (n : Int)) = false := by simp; omega
 refine zC (by kernel_rfl) (by kernel_rfl) ?_
 repeat (go_big_quiet_step ((exact zG (HZ.out _))))
 refine aC ?_;intro _ dY;obtain ⟨q, dY⟩ := dY;subst dY;have HQ := zh (zA eA.out q.h);have HX := zh (eB.out.below q.h);generalize q.w' = w1 at *;clear k0 k1 e0 e1 e2 e3 e4 e5 HZ eB eA;have Hu := HX.out.lt;have eY := zh (HR.out.below HQ.out);go_wp2_with fail
 go_loopw [4] (fun x wr => ∃ k : Nat, k ≤ n ∧ x = .int .i64 (k : Int) ∧ (∀ j, j < k → ok j) ∧ Below w1.heap.size w1 wr) (fun x _ => n - (intOf x).toNat)
 case atStart => exact ⟨0, au _, rfl, fun j hj => absurd hj (by omega), aj _ _⟩
 obtain ⟨k, hk, rfl, Dm, hb⟩ := eT;have l7 := zh Dm;have Hb := zh hb;have o5 := hb.size;clear Dm hb;have lj := zh (HX.out.below Hb.out);have h_ := zh (eY.out.below Hb.out)
 by_cases hlt : k < n
 ·
  obtain ⟨b, off, rfl, hg⟩ := h_.out.at hlt;have fR := yd (l := L) (i := k) (by rw [iM.out]; exact hlt);have l8 := zh (h_.out.m _ fR);have HV := zh (fun W (hb : Below wr.heap.size wr W) => vr (pat L k).1 (pat L k).2 W (l8.out.below hb) (HS.out _ fR));have gO := zh (pQ.out k);have nK := zh (fun j (hj : j < n) => (h_.out.LI hj).n0);clear fR l8;generalize pat L k = p at *;obtain ⟨⟨num, rev, md, sz, f, LV, GA⟩, s⟩ := p;dsimp only at HV gO hg;generalize wB ⟨num, rev, md, sz, f, LV, GA⟩ = vb at *;obtain ⟨g0, g1, g2, g3, g4, g5, g6, g7, g8, g9, g10, g11, g12, g13⟩ := hg;dsimp only at g0 g1 g2 g3 g4 g5 g6 g7 g8 g9 g10 g11 g12 g13;have x3 := lj.out.c3;have iC := zh (eu.new wr num rev md sz s LV GA 113);have mE := zh (zQ wr num rev md sz s LV GA 113);go_upto_region 8 with fail;change Code.wp _ _ _ _ (wr.alloc (.cells (zW num rev md sz s LV GA) 113))
  obtain ⟨W, hW⟩ : ∃ W, wr.alloc (.cells (zW num rev md sz s LV GA) 113) = W := ⟨_, rfl⟩
  rw [hW] at iC mE ⊢;have jK := zh (iO Hb.out o5 mE.out);have gQ := ak o5 mE.out.size;have RP := iC.out.lt;have B5 := zh (lj.out.below mE.out);have RQ := B5.out.lt;have mP := zh (fun W' (hb : Below W.heap.size W W') => HV.out W' (zA mE.out hb));have Od := zh (fun j (hj : j < n) => Below.keeps mE.out _ _ (nK.out j hj));clear hW g0 g1 g2 g3 g4 g5 g6 g7 g8 g9 g10 g11 g12 g13 x3 HV nK lj;obtain ⟨bl, e7, JQ⟩ : ∃ bl, ((k : Int) == (n : Int) - 1) = bl ∧ (bl = true ↔ k + 1 = n) := ⟨_, rfl, by rw [cw]; omega⟩
  obtain ⟨bm, e8, FR⟩ : ∃ bm, (md == 1) = bm ∧ (bm = true ↔ md = 1) := ⟨_, rfl, by rw [cw]⟩
  have B6 := zh FR;have rG := zh JQ;clear FR JQ;obtain ⟨bx, e9, fa⟩ : ∃ bx, (bm != bl) = bx ∧ (bx = false ↔ bm = bl) := ⟨_, rfl, by cases bm <;> cases bl <;> decide⟩
  have j1 : IntKind.i64.wrap ((n : Int) - 1) = (n : Int) - 1 := aH _ (by omega);have j2 : IntKind.i64.wrap (2 * l) = 2 * l := aH _ (by omega);have y3 := B5.out.c3;go_wp2_with fail;clear y3;obtain ⟨m0, m1, m2, m3, m4, m5, m6, m7, m8, m9, m10, m11, m12, m13⟩ := zB iC.out.q;have v1 := zB B5.out.c1;have v3 := zB B5.out.c3
  cases vb
  ·
   refine zC (by kernel_rfl) (by kernel_rfl) ?_
   repeat (go_big_quiet_step ((exact zG (mP.out _ (dU.h _)))))
   refine aC ?_;intro _ dY;obtain ⟨q, dY⟩ := dY;subst dY;have gN := zh (iO jK.out gQ q.h);generalize q.w' = W2 at *;clear m0 m1 m2 m3 m4 m5 m6 m7 m8 m9 m10 m11 m12 m13 v1 v3;go_wp2_with fail;go_ret;exact ⟨zE (iQ.out k hlt fun h => by have := (gO.out.1 h).1; cases this).symm, zA HQ.out gN.out⟩
  cases bx
  ·
   have oe := zh (show bm = bl from fa.1 rfl);rcases zIf oe.out with ⟨rfl, rfl⟩ | ⟨rfl, rfl⟩
   ·
    as_aux_lemma =>
    clear e9 fa
    by_cases BN : k = 0
    ·
     have e0 : decide ((0 : Int) < (k : Int)) = false := by simp; omega
     have e7z : ((0 : Int) == (n : Int) - 1) = true := by rw [← e7, BN]; rfl
     have e0n : decide (0 < k) = false := by rw [BN]; rfl
     have FD := zh BN;clear BN
     by_cases hsz : 2 * l < sz
     ·
      have rH : decide (2 * l < sz) = true := by simp; omega
      refine zC (by kernel_rfl) (by kernel_rfl) ?_
      repeat (go_big_quiet_step ((exact zG (mP.out _ (dU.h _)))))
      refine aC ?_;intro _ dY;obtain ⟨q, dY⟩ := dY;subst dY;have gN := zh (iO jK.out gQ q.h);generalize q.w' = W2 at *;clear m0 m1 m2 m3 m4 m5 m6 m7 m8 m9 m10 m11 m12 m13 v1 v3;go_wp2_with fail;go_ret;exact ⟨zE (iQ.out k hlt fun h => by have := (gO.out.1 h).2.2.2; omega).symm, zA HQ.out gN.out⟩
     have rH : decide (2 * l < sz) = false := by simp; omega
     have iz := zh (show sz ≤ 2 * l by omega);refine zC (by kernel_rfl) (by kernel_rfl) ?_
     repeat (go_big_quiet_step ((exact zG (mP.out _ (dU.h _)))))
     refine aC ?_;intro _ dY;obtain ⟨q, dY⟩ := dY;subst dY;have gN := zh (iO jK.out gQ q.h);generalize q.w' = W2 at *;clear m0 m1 m2 m3 m4 m5 m6 m7 m8 m9 m10 m11 m12 m13 v1 v3;go_wp2_with fail
     exact ⟨⟨k + 1, by omega, by go_num, fun j' hj => by
      by_cases e : j' = k
      ·
       rw [e]; exact gO.out.2 ⟨rfl, fun h => absurd h (by have := FD.out; omega), by rw [← B6.out, ← rG.out], iz.out⟩
      exact l7.out j' (by omega), gN.out⟩, by simp [intOf]; omega⟩
    obtain ⟨j, rfl⟩ : ∃ j, k = j + 1 := ⟨k - 1, by omega⟩
    have e0 : decide ((0 : Int) < ((j + 1 : Nat) : Int)) = true := by simp
    have e7j : ((j : Int) + 1 == (n : Int) - 1) = true := e7;have p0 := zB (Od.out j (by omega));have CL : j + 1 - 1 = j := by omega
    rw [CL] at gO;generalize (pat L j).1.num = pn at *;have i1 : (j : Int) + 1 < (n : Int) := by omega
    have i2 : (j : Int) < (n : Int) := by omega
    have j3 : IntKind.i64.wrap (j : Int) = (j : Int) := aH _ (by omega)
    by_cases XP : num ≤ pn
    ·
     have LJ : decide (num ≤ pn) = true := by simp; omega
     refine zC (by kernel_rfl) (by kernel_rfl) ?_
     repeat (go_big_quiet_step ((exact zG (mP.out _ (dU.h _)))))
     refine aC ?_;intro _ dY;obtain ⟨q, dY⟩ := dY;subst dY;have gN := zh (iO jK.out gQ q.h);generalize q.w' = W2 at *;clear m0 m1 m2 m3 m4 m5 m6 m7 m8 m9 m10 m11 m12 m13 v1 v3;go_wp2_with fail;go_ret;exact ⟨zE (iQ.out (j + 1) hlt fun h => by have := (gO.out.1 h).2.1 (by omega); omega).symm, zA HQ.out gN.out⟩
    have LJ : decide (num ≤ pn) = false := by simp; omega
    have lC := zh (show pn < num by omega)
    by_cases hsz : 2 * l < sz
    ·
     have rH : decide (2 * l < sz) = true := by simp; omega
     refine zC (by kernel_rfl) (by kernel_rfl) ?_
     repeat (go_big_quiet_step ((exact zG (mP.out _ (dU.h _)))))
     refine aC ?_;intro _ dY;obtain ⟨q, dY⟩ := dY;subst dY;have gN := zh (iO jK.out gQ q.h);generalize q.w' = W2 at *;clear m0 m1 m2 m3 m4 m5 m6 m7 m8 m9 m10 m11 m12 m13 v1 v3;go_wp2_with fail;go_ret;exact ⟨zE (iQ.out (j + 1) hlt fun h => by have := (gO.out.1 h).2.2.2; omega).symm, zA HQ.out gN.out⟩
    have rH : decide (2 * l < sz) = false := by simp; omega
    have iz := zh (show sz ≤ 2 * l by omega);refine zC (by kernel_rfl) (by kernel_rfl) ?_
    repeat (go_big_quiet_step ((exact zG (mP.out _ (dU.h _)))))
    refine aC ?_;intro _ dY;obtain ⟨q, dY⟩ := dY;subst dY;have gN := zh (iO jK.out gQ q.h);generalize q.w' = W2 at *;clear m0 m1 m2 m3 m4 m5 m6 m7 m8 m9 m10 m11 m12 m13 v1 v3;go_wp2_with fail
    exact ⟨⟨j + 1 + 1, by omega, by go_num, fun j' hj => by
     by_cases e : j' = (j + 1)
     ·
      rw [e]; exact gO.out.2 ⟨rfl, fun _ => lC.out, by rw [← B6.out, ← rG.out], iz.out⟩
     exact l7.out j' (by omega), gN.out⟩, by simp [intOf]; omega⟩
   as_aux_lemma =>
   clear e9 fa
   by_cases BN : k = 0
   ·
    have e0 : decide ((0 : Int) < (k : Int)) = false := by simp; omega
    have e7z : ((0 : Int) == (n : Int) - 1) = false := by rw [← e7, BN]; rfl
    have e0n : decide (0 < k) = false := by rw [BN]; rfl
    have FD := zh BN;clear BN
    by_cases hsz : 2 * l < sz
    ·
     have rH : decide (2 * l < sz) = true := by simp; omega
     refine zC (by kernel_rfl) (by kernel_rfl) ?_
     repeat (go_big_quiet_step ((exact zG (mP.out _ (dU.h _)))))
     refine aC ?_;intro _ dY;obtain ⟨q, dY⟩ := dY;subst dY;have gN := zh (iO jK.out gQ q.h);generalize q.w' = W2 at *;clear m0 m1 m2 m3 m4 m5 m6 m7 m8 m9 m10 m11 m12 m13 v1 v3;go_wp2_with fail;go_ret;exact ⟨zE (iQ.out k hlt fun h => by have := (gO.out.1 h).2.2.2; omega).symm, zA HQ.out gN.out⟩
    have rH : decide (2 * l < sz) = false := by simp; omega
    have iz := zh (show sz ≤ 2 * l by omega);refine zC (by kernel_rfl) (by kernel_rfl) ?_
    repeat (go_big_quiet_step ((exact zG (mP.out _ (dU.h _)))))
    refine aC ?_;intro _ dY;obtain ⟨q, dY⟩ := dY;subst dY;have gN := zh (iO jK.out gQ q.h);generalize q.w' = W2 at *;clear m0 m1 m2 m3 m4 m5 m6 m7 m8 m9 m10 m11 m12 m13 v1 v3;go_wp2_with fail
    exact ⟨⟨k + 1, by omega, by go_num, fun j' hj => by
     by_cases e : j' = k
     ·
      rw [e]; exact gO.out.2 ⟨rfl, fun h => absurd h (by have := FD.out; omega), by rw [← B6.out, ← rG.out], iz.out⟩
     exact l7.out j' (by omega), gN.out⟩, by simp [intOf]; omega⟩
   obtain ⟨j, rfl⟩ : ∃ j, k = j + 1 := ⟨k - 1, by omega⟩
   have e0 : decide ((0 : Int) < ((j + 1 : Nat) : Int)) = true := by simp
   have e7j : ((j : Int) + 1 == (n : Int) - 1) = false := e7;have p0 := zB (Od.out j (by omega));have CL : j + 1 - 1 = j := by omega
   rw [CL] at gO;generalize (pat L j).1.num = pn at *;have i1 : (j : Int) + 1 < (n : Int) := by omega
   have i2 : (j : Int) < (n : Int) := by omega
   have j3 : IntKind.i64.wrap (j : Int) = (j : Int) := aH _ (by omega)
   by_cases XP : num ≤ pn
   ·
    have LJ : decide (num ≤ pn) = true := by simp; omega
    refine zC (by kernel_rfl) (by kernel_rfl) ?_
    repeat (go_big_quiet_step ((exact zG (mP.out _ (dU.h _)))))
    refine aC ?_;intro _ dY;obtain ⟨q, dY⟩ := dY;subst dY;have gN := zh (iO jK.out gQ q.h);generalize q.w' = W2 at *;clear m0 m1 m2 m3 m4 m5 m6 m7 m8 m9 m10 m11 m12 m13 v1 v3;go_wp2_with fail;go_ret;exact ⟨zE (iQ.out (j + 1) hlt fun h => by have := (gO.out.1 h).2.1 (by omega); omega).symm, zA HQ.out gN.out⟩
   have LJ : decide (num ≤ pn) = false := by simp; omega
   have lC := zh (show pn < num by omega)
   by_cases hsz : 2 * l < sz
   ·
    have rH : decide (2 * l < sz) = true := by simp; omega
    refine zC (by kernel_rfl) (by kernel_rfl) ?_
    repeat (go_big_quiet_step ((exact zG (mP.out _ (dU.h _)))))
    refine aC ?_;intro _ dY;obtain ⟨q, dY⟩ := dY;subst dY;have gN := zh (iO jK.out gQ q.h);generalize q.w' = W2 at *;clear m0 m1 m2 m3 m4 m5 m6 m7 m8 m9 m10 m11 m12 m13 v1 v3;go_wp2_with fail;go_ret;exact ⟨zE (iQ.out (j + 1) hlt fun h => by have := (gO.out.1 h).2.2.2; omega).symm, zA HQ.out gN.out⟩
   have rH : decide (2 * l < sz) = false := by simp; omega
   have iz := zh (show sz ≤ 2 * l by omega);refine zC (by kernel_rfl) (by kernel_rfl) ?_
   repeat (go_big_quiet_step ((exact zG (mP.out _ (dU.h _)))))
   refine aC ?_;intro _ dY;obtain ⟨q, dY⟩ := dY;subst dY;have gN := zh (iO jK.out gQ q.h);generalize q.w' = W2 at *;clear m0 m1 m2 m3 m4 m5 m6 m7 m8 m9 m10 m11 m12 m13 v1 v3;go_wp2_with fail
   exact ⟨⟨j + 1 + 1, by omega, by go_num, fun j' hj => by
    by_cases e : j' = (j + 1)
    ·
     rw [e]; exact gO.out.2 ⟨rfl, fun _ => lC.out, by rw [← B6.out, ← rG.out], iz.out⟩
    exact l7.out j' (by omega), gN.out⟩, by simp [intOf]; omega⟩
  have oe := zh (show bm ≠ bl from fun h => by cases fa.2 h);rcases RN oe.out with ⟨rfl, rfl⟩ | ⟨rfl, rfl⟩
  ·
   as_aux_lemma =>
   clear e9 fa;refine zC (by kernel_rfl) (by kernel_rfl) ?_
   repeat (go_big_quiet_step ((exact zG (mP.out _ (dU.h _)))))
   refine aC ?_;intro _ dY;obtain ⟨q, dY⟩ := dY;subst dY;have gN := zh (iO jK.out gQ q.h);generalize q.w' = W2 at *;clear m0 m1 m2 m3 m4 m5 m6 m7 m8 m9 m10 m11 m12 m13 v1 v3;go_wp2_with fail;go_ret
   exact ⟨zE (iQ.out k hlt fun h => by
     have h5 := (gO.out.1 h).2.2.1
     rw [← B6.out, ← rG.out] at h5
     simp at h5).symm, zA HQ.out gN.out⟩
  as_aux_lemma =>
  clear e9 fa;refine zC (by kernel_rfl) (by kernel_rfl) ?_
  repeat (go_big_quiet_step ((exact zG (mP.out _ (dU.h _)))))
  refine aC ?_;intro _ dY;obtain ⟨q, dY⟩ := dY;subst dY;have gN := zh (iO jK.out gQ q.h);generalize q.w' = W2 at *;clear m0 m1 m2 m3 m4 m5 m6 m7 m8 m9 m10 m11 m12 m13 v1 v3;go_wp2_with fail;go_ret
  exact ⟨zE (iQ.out k hlt fun h => by
    have h5 := (gO.out.1 h).2.2.1
    rw [← B6.out, ← rG.out] at h5
    simp at h5).symm, zA HQ.out gN.out⟩
 as_aux_lemma =>
 obtain rfl : k = n := by omega
 have HF := zh (jo.out l7.out);obtain ⟨j, rfl⟩ : ∃ j, k = j + 1 := ⟨k - 1, by omega⟩
 have CL : j + 1 - 1 = j := by omega
 rw [CL] at HF;obtain ⟨b, off, rfl, hg⟩ := h_.out.at (show j < j + 1 by omega);have fR := yd (l := L) (i := j) (by rw [iM.out]; omega);have l8 := zh (h_.out.m _ fR);have HV := zh (fun W (hb : Below wr.heap.size wr W) => zGm (pat L j).2 (pat L j).1.m W (l8.out.below hb) (HS.out _ fR));have hil : (zI (pat L j).1.m).length ≤ 80000 := wK (HS.out _ fR);have hsz := ((pQ.out j).1 (l7.out j (by omega))).2.2.2;have RT := ((yD _).1 ((pQ.out j).1 (l7.out j (by omega))).1).size.1;clear fR l8 jo iQ pQ l7 HS;generalize (zI (pat L j).1.m).length = len at *;generalize pat L j = p at *;obtain ⟨⟨num, rev, md, sz, f, LV, GA⟩, s⟩ := p;dsimp only at HV HF hg hsz RT;obtain ⟨g0, g1, g2, g3, g4, g5, g6, g7, g8, g9, g10, g11, g12, g13⟩ := hg;dsimp only at g0 g1 g2 g3 g4 g5 g6 g7 g8 g9 g10 g11 g12 g13;have x3 := lj.out.c3;have iC := zh (eu.new wr num rev md sz s LV GA 113)
 have mE := zh (zQ wr num rev md sz s LV GA 113);have j3 : IntKind.i64.wrap (j : Int) = (j : Int) := aH _ (by omega);have i1 : (j : Int) + 1 < ((j + 1 : Nat) : Int) + 1 := by omega
 have i2 : (j : Int) < ((j + 1 : Nat) : Int) := by omega
 go_upto_region 11 with fail;change Code.wp _ _ _ _ (wr.alloc (.cells (zW num rev md sz s LV GA) 113));obtain ⟨W, hW⟩ : ∃ W, wr.alloc (.cells (zW num rev md sz s LV GA) 113) = W := ⟨_, rfl⟩
 rw [hW] at iC mE ⊢;have jK := zh (iO Hb.out o5 mE.out);have gQ := ak o5 mE.out.size;have RP := iC.out.lt;have B5 := zh (lj.out.below mE.out);have mP := zh (fun W' (hb : Below W.heap.size W W') => HV.out W' (zA mE.out hb));clear hW g0 g1 g2 g3 g4 g5 g6 g7 g8 g9 g10 g11 g12 g13 x3 HV lj;have j2 : IntKind.i64.wrap (2 * l) = 2 * l := aH _ (by omega);have j4 : IntKind.i64.wrap (24 * (len : Int)) = 24 * (len : Int) := aH _ (by omega);have j5 : IntKind.i64.wrap (sz + 24 * (len : Int)) = sz + 24 * (len : Int) := aH _ (by omega);have m3 := zB iC.out.n3;have m4 := zB iC.out.c0;have m5 := zB iC.out.c1;have m6 := zB iC.out.c2;have m7 := zB iC.out.c3;have m8 := zB iC.out.c4;have m9 := zB iC.out.c5;have m10 := zB iC.out.c6;have m11 := zB iC.out.c7;have m12 := zB iC.out.cl;have m13 := zB iC.out.cg;have v1 := zB B5.out.c1;refine zC (by kernel_rfl) (by kernel_rfl) ?_
 repeat (go_big_quiet_step ((first | exact zG (mP.out _ (dU.h _)) | exact zG (RO.out _))))
 refine aC ?_;intro _ dY;obtain ⟨q, dY⟩ := dY;subst dY;have gN := zh (iO jK.out gQ q.h);generalize q.w' = W2 at *;clear m3 m4 m5 m6 m7 m8 m9 m10 m11 m12 m13 v1;go_wp2_with fail;go_ret;exact ⟨zE (by rw [HF.out]; congr 1; rw [eq_iff_iff]; push_cast; omega), zA HQ.out gN.out⟩
theorem xR (i l : Int) (r : Bool) (a : Option Addr) (n c : Nat) (L : List GP) (w : World) (h : fl w (.slice a n c) L) (hs : ∀ p ∈ L, ∀ j, j < 8 → (p.1.m.st j).length ≤ 10000) :
  Calls Tryz.prog 76 #[zZ i l r a n c] w fun e w' => e = .returned (.bool (zg ⟨i, l, r, dV L⟩)) ∧ Below w.heap.size w w' := by
 have fN : L.length = n := by
  obtain ⟨_, _, e, _⟩ := h.shape;injection e with _ e _; exact e.symm
 by_cases hA : 0 ≤ i ∧ i < 4 ∧ 4136 ≤ l ∧ l ≤ 262144 ∧ 1 ≤ n ∧ n ≤ 8
 ·
  exact zEn i l r a n c L w ⟨hA.1, hA.2.1, hA.2.2.1, hA.2.2.2.1⟩ hA.2.2.2.2 h hs
 have hf : zg ⟨i, l, r, dV L⟩ = false := qM fun hv => hA ⟨hv.id.1, hv.id.2, hv.lim.1, hv.lim.2, by have := hv.len; rw [zj, fN] at this; exact this⟩
 rw [hf];exact zFU i l r a n c w hA
end Go.Proofs.YtcgfilmmokmdjaaGreat
