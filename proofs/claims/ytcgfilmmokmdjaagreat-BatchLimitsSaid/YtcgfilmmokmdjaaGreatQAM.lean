/- A part of the walk. -/
import Derived.Test.YtcgfilmmokmdjaaGreatQAL
import Derived.Test.YtcgfilmmokmdjaaGreatQAJ
import Derived.Test.YtcgfilmmokmdjaaGreatQAH
set_option linter.all false
set_option maxRecDepth 100000
set_option maxHeartbeats 32000000
namespace Go.Proofs.YtcgfilmmokmdjaaGreat
open Go.RowKit
def rdS (l : List It) : Sta := ⟨fun v w => ∃ u, v = u ∧ RdT w u l, fun _ _ _ hb ⟨u, h1, h2⟩ => ⟨u, h1, h2.below hb⟩⟩
theorem vU (g : Gn) (s : Sl) (w : World) (h : RdM w s g.m.st) (hs : ∀ i, i < 8 → (g.m.st i).length ≤ 10000) :
  Calls Tryz.prog 79 #[ze g.num g.rev g.mode g.size s g.m.live g.m.garb] w fun e w' => e = .returned (.bool (wJ g)) ∧ Below w.heap.size w w' := by
 have HV := zh (fun W (hb : Below w.heap.size w W) => vT s g.m W (h.below hb) (fun i hi => Nat.le_trans (hs i hi) (by decide)));have HI := zh (fun W (hb : Below w.heap.size w W) => wn s g.m W (h.below hb) hs);have HNo := zh (fun h => zDw (g := g) h);have hIl : (zG g.m).length ≤ 1000000 := Nat.le_trans (xw hs) (by decide)
 have HM := zh (show yX g.m = true → (∀ x ∈ zG g.m, okP x) ∧ 0 ≤ g.m.live ∧ g.m.live ≤ 400000000 from fun hv =>
  ⟨tX ((zM g.m).1 hv), (uf ((zM g.m).1 hv) hs).2⟩)
 have HYes := zh (yD g);have HEn := zh (fun W v (hr : RdT W v (zG g.m)) (hok : ∀ x ∈ zG g.m, okP x) => zGM v (zG g.m) g.size W hr hok hIl);have HER := zh (fun (hok : ∀ x ∈ zG g.m, okP x) => zI7 hok g.size);have HBx := zh (BoxG.new w g.num g.rev g.mode g.size s g.m.live g.m.garb 113);have HB0 := zh (zZ w g.num g.rev g.mode g.size s g.m.live g.m.garb 113);clear h hs hIl;generalize hres : wJ g = res at *
 by_cases hA : 1 ≤ g.num ∧ g.num ≤ 8 ∧ 0 ≤ g.rev ∧ g.rev ≤ 4294967295 ∧ 1 ≤ g.mode ∧ g.mode ≤ 3
 ·
  obtain ⟨hA1, hA2, hA3, hA4, hA5, hA6⟩ := hA;have HNs := zh (fun (hn : ¬ (16 ≤ g.size ∧ g.size ≤ 1048576 ∧ g.size % 8 = 0)) => HNo.out fun h => hn h.size);have HNm := zh (fun (hn : yX g.m = false) => HNo.out fun h => by rw [h.m] at hn; cases hn)
  have HFin := zh (show 16 ≤ g.size ∧ g.size ≤ 1048576 ∧ g.size % 8 = 0 → yX g.m = true → res = (vM (zG g.m) g.size && (g.size - 16 - g.m.live == g.m.garb)) from fun hB hv => by
   rw [Bool.eq_iff_iff, ← hres, yD, Bool.and_eq_true, beq_iff_eq]
   exact ⟨fun h => ⟨h.ends, by have := h.sum; omega⟩, fun h => ⟨⟨hA1, hA2⟩, ⟨hA3, hA4⟩, ⟨hA5, hA6⟩, hB, hv, h.1, by have := h.2; omega⟩⟩)
  clear HNo HYes hres;generalize yX g.m = vb at *;generalize zG g.m = I at *;obtain ⟨a, b, c, d, f, L, G⟩ := g;dsimp only at *;generalize zBk I d = er at *;generalize vM I d = eb at *
  go_enter Tryz.func79, Tryz.ntmps79
  go_upto_region 1 with fail;obtain ⟨W, hW⟩ : ∃ W, w.alloc (.cells (zX a b c d s L G) 113) = W := ⟨_, rfl⟩
  change Code.wp _ _ _ _ (w.alloc (.cells (zX a b c d s L G) 113));rw [hW] at HBx HB0 ⊢;clear hW;have hlw := HBx.out.lt;obtain ⟨x0, x1, x2, x3, x4, x5, x6, x7, x8, x9, x10, x11, x12, x13⟩ := HBx.out.q
  by_cases hB : 16 ≤ d ∧ d ≤ 1048576 ∧ d % 8 = 0
  ·
   obtain ⟨hd1, hd2, hd3⟩ := hB;have hdm : d.tmod 8 = 0 := by rw [Int.tmod_eq_emod_of_nonneg (by omega)]; exact hd3
   have e1 : decide (d < 16) = false := by simp; omega
   have e2 : decide (1048576 < d) = false := by simp; omega
   cases vb
   ·
    have HF := zh (HNm.out rfl);have y3 := zC HBx.out.n3;have y4 := zC HBx.out.c0;have y5 := zC HBx.out.c1;have y6 := zC HBx.out.c2;have y7 := zC HBx.out.c3;have y8 := zC HBx.out.c4;have y9 := zC HBx.out.c5;have y10 := zC HBx.out.c6;have y11 := zC HBx.out.c7;have y12 := zC HBx.out.cl;have y13 := zC HBx.out.cg;have HVx := zh (fun W (hb : Below W.heap.size W W) => HV.out);clear HVx;go_wp2_with fail;refine zB (by kernel_rfl) (by kernel_rfl) ?_
    repeat (go_big_quiet_step (exact zI (HV.out _ (zA HB0.out (BelowBy.h _)))))
    refine wpQuiet_nil ?_;intro w4 hw4;obtain ⟨q, hw4⟩ := hw4;subst hw4;have HB4 := zh (zA HB0.out q.h);go_wp2_with fail;go_ret;exact ⟨zE HF.out.symm, HB4.out⟩
   obtain ⟨hok, hL1, hL2⟩ := HM.out rfl;have HR := zh (HER.out hok);have HF := zh (HFin.out ⟨hd1, hd2, hd3⟩ rfl);clear HNs HNm HFin HM HER;go_wp2_with fail;clear x0 x1 x2 x3 x4 x5 x6 x7 x8 x9 x10 x11 x12 x13
   refine yt [eqS (.pointer (some ⟨w.heap.size, 3, none⟩)), eqS (.int .i64 d), eqS (.bool false), eqS (.bool false), eqS (.pointer (some ⟨w.heap.size, 3, none⟩)), eqS (.int .i64 d), eqS (.bool false), eqS (.bool false), eqS (.bool false), eqS (.pointer (some ⟨w.heap.size, 3, none⟩)), eqS (.int .i64 d), eqS (.int .i64 0), eqS (.bool false), eqS (.bool false), eqS (.bool false), eqS (.pointer (some ⟨w.heap.size, 4, none⟩)), eqS (yC s L G), eqS (.bool true), eqS (.bool false), eqS (.bool false), eqS (.bool false), eqS (.pointer (some ⟨w.heap.size, 4, none⟩)), eqS (yC s L G), rdS I, eqS (.pointer (some ⟨w.heap.size, 3, none⟩)), eqS (.int .i64 d), eqS (.bool er), eqS (.bool (!er))] [] 71 (by kernel_rfl) (by kernel_rfl) (by rfl) (by kernel_rfl) (fun f => by simp [frm, zN, Act.put]; exact rfl) ?_ ?_
   ·
    refine ⟨?_, ?_, ?_, ?_, ?_, ?_, ?_, ?_, ?_, ?_, ?_, ?_, ?_, ?_, ?_, ?_, ?_, ?_, ?_, ?_, ?_, ?_, ?_, ?_, ?_, ?_, ?_, ?_, trivial⟩
    ·
     intro f w1 hb hd;clear hd;dsimp only;go_wp2_with fail;exact pS rfl (by simp)
    ·
     intro f w1 hb hd;have d0 : f 0 = (.pointer (some ⟨w.heap.size, 3, none⟩)) := hd 0 (by kernel_rfl);clear hd;dsimp only;rw [d0];have hx := HBx.out.below hb;have x3 := hx.n3;clear hx;go_wp2_with fail;exact pS rfl (by simp)
    ·
     intro f w1 hb hd;have d1 : f 1 = (.int .i64 d) := hd 1 (by kernel_rfl);clear hd;dsimp only;rw [d1];go_wp2_with fail;exact pS rfl (by simp)
    ·
     intro f w1 hb hd;have d2 : f 2 = (.bool false) := hd 2 (by kernel_rfl);clear hd;dsimp only;rw [d2];go_wp2_with fail;exact pS rfl (by simp)
    ·
     intro f w1 hb hd;have d3 : f 3 = (.bool false) := hd 3 (by kernel_rfl);clear hd;dsimp only;rw [d3];go_wp2_with fail;exact pS rfl (by simp)
    ·
     intro f w1 hb hd;have d3 : f 3 = (.bool false) := hd 3 (by kernel_rfl);have d4 : f 4 = (.pointer (some ⟨w.heap.size, 3, none⟩)) := hd 4 (by kernel_rfl);clear hd;dsimp only;rw [d3];rw [d4];have hx := HBx.out.below hb;have x3 := hx.n3;clear hx;go_wp2_with fail;exact pS rfl (by simp)
    ·
     intro f w1 hb hd;have d3 : f 3 = (.bool false) := hd 3 (by kernel_rfl);have d5 : f 5 = (.int .i64 d) := hd 5 (by kernel_rfl);clear hd;dsimp only;rw [d3];rw [d5];go_wp2_with fail;exact pS rfl (by simp)
    ·
     intro f w1 hb hd;have d3 : f 3 = (.bool false) := hd 3 (by kernel_rfl);have d6 : f 6 = (.bool false) := hd 6 (by kernel_rfl);clear hd;dsimp only;rw [d3];rw [d6];go_wp2_with fail;exact pS rfl (by simp)
    ·
     intro f w1 hb hd;have d7 : f 7 = (.bool false) := hd 7 (by kernel_rfl);clear hd;dsimp only;rw [d7];go_wp2_with fail;exact pS rfl (by simp)
    ·
     intro f w1 hb hd;have d8 : f 8 = (.bool false) := hd 8 (by kernel_rfl);clear hd;dsimp only;rw [d8];go_wp2_with fail;exact pS rfl (by simp)
    ·
     intro f w1 hb hd;have d8 : f 8 = (.bool false) := hd 8 (by kernel_rfl);have d9 : f 9 = (.pointer (some ⟨w.heap.size, 3, none⟩)) := hd 9 (by kernel_rfl);clear hd;dsimp only;rw [d8];rw [d9];have hx := HBx.out.below hb;have x3 := hx.n3;clear hx;go_wp2_with fail;exact pS rfl (by simp)
    ·
     intro f w1 hb hd;have d8 : f 8 = (.bool false) := hd 8 (by kernel_rfl);have d10 : f 10 = (.int .i64 d) := hd 10 (by kernel_rfl);clear hd;dsimp only;rw [d8];rw [d10];go_wp2_with fail;exact pS rfl (by simp)
    ·
     intro f w1 hb hd;have d8 : f 8 = (.bool false) := hd 8 (by kernel_rfl);have d11 : f 11 = (.int .i64 0) := hd 11 (by kernel_rfl);clear hd;dsimp only;rw [d8];rw [d11];go_wp2_with fail;exact pS rfl (by simp)
    ·
     intro f w1 hb hd;have d8 : f 8 = (.bool false) := hd 8 (by kernel_rfl);have d12 : f 12 = (.bool false) := hd 12 (by kernel_rfl);clear hd;dsimp only;rw [d8];rw [d12];go_wp2_with fail;exact pS rfl (by simp)
    ·
     intro f w1 hb hd;have d13 : f 13 = (.bool false) := hd 13 (by kernel_rfl);clear hd;dsimp only;rw [d13];go_wp2_with fail;exact pS rfl (by simp)
    ·
     intro f w1 hb hd;have d14 : f 14 = (.bool false) := hd 14 (by kernel_rfl);clear hd;dsimp only;rw [d14];go_wp2_with fail;exact pS rfl (by simp)
    ·
     intro f w1 hb hd;have d14 : f 14 = (.bool false) := hd 14 (by kernel_rfl);have d15 : f 15 = (.pointer (some ⟨w.heap.size, 4, none⟩)) := hd 15 (by kernel_rfl);clear hd;dsimp only;rw [d14];rw [d15];have hx := HBx.out.below hb;obtain ⟨m4, m5, m6, m7, m8, m9, m10, m11, m12, m13⟩ := hx.q;clear hx;go_wp2_with fail;exact pS rfl (by simp)
    ·
     intro f w1 hb hd;have d14 : f 14 = (.bool false) := hd 14 (by kernel_rfl);have d16 : f 16 = (yC s L G) := hd 16 (by kernel_rfl);clear hd;dsimp only;rw [d14];rw [d16];go_wp2_with fail;refine (HV.out w1 (zA HB0.out hb)).mono ?_; rintro e w9 ⟨rfl, hb9⟩;go_wp2_with fail;exact pT rfl (by simp) hb9
    ·
     intro f w1 hb hd;have d14 : f 14 = (.bool false) := hd 14 (by kernel_rfl);have d17 : f 17 = (.bool true) := hd 17 (by kernel_rfl);clear hd;dsimp only;rw [d14];rw [d17];go_wp2_with fail;exact pS rfl (by simp)
    ·
     intro f w1 hb hd;have d14 : f 14 = (.bool false) := hd 14 (by kernel_rfl);have d18 : f 18 = (.bool false) := hd 18 (by kernel_rfl);clear hd;dsimp only;rw [d14];rw [d18];go_wp2_with fail;exact pS rfl (by simp)
    ·
     intro f w1 hb hd;have d19 : f 19 = (.bool false) := hd 19 (by kernel_rfl);clear hd;dsimp only;rw [d19];go_wp2_with fail;exact pS rfl (by simp)
    ·
     intro f w1 hb hd;have d20 : f 20 = (.bool false) := hd 20 (by kernel_rfl);clear hd;dsimp only;rw [d20];go_wp2_with fail;exact pS rfl (by simp)
    ·
     intro f w1 hb hd;have d20 : f 20 = (.bool false) := hd 20 (by kernel_rfl);have d21 : f 21 = (.pointer (some ⟨w.heap.size, 4, none⟩)) := hd 21 (by kernel_rfl);clear hd;dsimp only;rw [d20];rw [d21];have hx := HBx.out.below hb;obtain ⟨m4, m5, m6, m7, m8, m9, m10, m11, m12, m13⟩ := hx.q;clear hx;go_wp2_with fail;exact pS rfl (by simp)
    ·
     intro f w1 hb hd;have d20 : f 20 = (.bool false) := hd 20 (by kernel_rfl);have d22 : f 22 = (yC s L G) := hd 22 (by kernel_rfl);clear hd;dsimp only;rw [d20];rw [d22];go_wp2_with fail;refine (HI.out w1 (zA HB0.out hb)).mono ?_; rintro e w9 ⟨v9, rfl, ho9, hb9⟩;go_wp2_with fail;exact ⟨rfl, hb9, fun t ht => by injection ht with ht; subst ht; exact ⟨⟨_, rfl, OwnT.rd ho9⟩, fun h => by simp at h⟩⟩
    ·
     intro f w1 hb hd;have d20 : f 20 = (.bool false) := hd 20 (by kernel_rfl);clear hd;dsimp only;rw [d20];go_wp2_with fail;exact pS rfl (by simp)
    ·
     intro f w1 hb hd;have d20 : f 20 = (.bool false) := hd 20 (by kernel_rfl);have d24 : f 24 = (.pointer (some ⟨w.heap.size, 3, none⟩)) := hd 24 (by kernel_rfl);clear hd;dsimp only;rw [d20];rw [d24];have hx := HBx.out.below hb;have x3 := hx.n3;clear hx;go_wp2_with fail;exact pS rfl (by simp)
    ·
     intro f w1 hb hd;have d20 : f 20 = (.bool false) := hd 20 (by kernel_rfl);obtain ⟨v23, d23, r23⟩ := show ∃ u, f 23 = u ∧ RdT w1 u I from hd 23 (by kernel_rfl);have d25 : f 25 = (.int .i64 d) := hd 25 (by kernel_rfl);clear hd;dsimp only;rw [d20];rw [d23];rw [d25];go_wp2_with fail;refine (HEn.out w1 _ r23 hok).mono ?_; rintro e w9 ⟨rfl, hb9⟩;go_wp2_with fail;exact pT rfl (by simp) hb9
    intro f w1 hb hd;have d20 : f 20 = (.bool false) := hd 20 (by kernel_rfl);have d26 : f 26 = (.bool er) := hd 26 (by kernel_rfl);clear hd;dsimp only;rw [d20];rw [d26];go_wp2_with fail;exact pS rfl (by simp)
   intro f w5 hb hd hff;clear hff;have d19 : f 19 = (.bool false) := hd 19 (show 19 < 28 by decide);have d20 : f 20 = (.bool false) := hd 20 (show 20 < 28 by decide);have d27 : f 27 = (.bool (!er)) := hd 27 (show 27 < 28 by decide)
   try dsimp only
   rw [d19, d20, d27];clear hd d19 d20 d27;have HX5 := zh (HBx.out.below hb);have HB5 := zh (zA HB0.out hb);generalize f 0 = g0, f 1 = g1, f 2 = g2, f 3 = g3, f 4 = g4, f 5 = g5, f 6 = g6, f 7 = g7, f 8 = g8, f 9 = g9, f 10 = g10, f 11 = g11, f 12 = g12, f 13 = g13, f 14 = g14, f 15 = g15, f 16 = g16, f 17 = g17, f 18 = g18, f 21 = g21, f 22 = g22, f 23 = g23, f 24 = g24, f 25 = g25, f 26 = g26;clear f;have x3 := HX5.out.n3;have x12 := HX5.out.cl;have x13 := HX5.out.cg
   cases er
   ·
    go_wp2_with fail;go_ret;exact ⟨zE (by rw [HF.out, ← HR.out]; rfl), HB5.out⟩
   go_wp2_with fail;go_ret;exact ⟨zE (by rw [HF.out, ← HR.out]; rfl), HB5.out⟩
  have HF := zh (HNs.out hB);have y3 := zC HBx.out.n3
  by_cases h1 : d < 16
  ·
   have e1 : decide (d < 16) = true := decide_eq_true h1;go_wp2_with fail;refine zB (by kernel_rfl) (by kernel_rfl) ?_
   repeat (go_big_quiet_step (fail))
   refine wpQuiet_nil ?_;intro w4 hw4;obtain ⟨q, hw4⟩ := hw4;subst hw4;have HB4 := zh (zA HB0.out q.h);go_wp2_with fail;go_ret;exact ⟨zE HF.out.symm, HB4.out⟩
  have e1 : decide (d < 16) = false := decide_eq_false h1
  by_cases h2 : 1048576 < d
  ·
   have e2 : decide (1048576 < d) = true := decide_eq_true h2;go_wp2_with fail;refine zB (by kernel_rfl) (by kernel_rfl) ?_
   repeat (go_big_quiet_step (fail))
   refine wpQuiet_nil ?_;intro w4 hw4;obtain ⟨q, hw4⟩ := hw4;subst hw4;have HB4 := zh (zA HB0.out q.h);go_wp2_with fail;go_ret;exact ⟨zE HF.out.symm, HB4.out⟩
  have e2 : decide (1048576 < d) = false := decide_eq_false h2;have hdm : d.tmod 8 = d % 8 := Int.tmod_eq_emod_of_nonneg (by omega);have e3 : (d % 8 != 0) = true := bne_iff_ne.2 (fun e => hB ⟨by omega, by omega, e⟩);go_wp2_with fail;refine zB (by kernel_rfl) (by kernel_rfl) ?_
  repeat (go_big_quiet_step (fail))
  refine wpQuiet_nil ?_;intro w4 hw4;obtain ⟨q, hw4⟩ := hw4;subst hw4;have HB4 := zh (zA HB0.out q.h);go_wp2_with fail;go_ret;exact ⟨zE HF.out.symm, HB4.out⟩
 have HF := zh (HNo.out fun h => hA ⟨h.num.1, h.num.2, h.rev.1, h.rev.2, h.mode.1, h.mode.2⟩);have HnA := zh hA;clear HNo HYes hres HV HI HM HEn HER hA;obtain ⟨a, b, c, d, f, L, G⟩ := g;dsimp only at *
 go_enter Tryz.func79, Tryz.ntmps79
 go_upto_region 1 with fail;obtain ⟨W, hW⟩ : ∃ W, w.alloc (.cells (zX a b c d s L G) 113) = W := ⟨_, rfl⟩
 change Code.wp _ _ _ _ (w.alloc (.cells (zX a b c d s L G) 113));rw [hW] at HBx HB0 ⊢;clear hW;have x0 := HBx.out.n0;have x1 := HBx.out.n1;have x2 := HBx.out.n2;go_upto_region 3 with fail
 all_goals first | (go_ret; exact ⟨zE HF.out.symm, HB0.out⟩) | (exfalso; exact HnA.out ⟨by omega, by omega, by omega, by omega, by omega, by omega⟩)
theorem vW (w : World) (n r md z : Int) (s : Sl) (l g : Int) (t : TypeId) : ∃ W, (w.alloc (.cells (zX n r md z s l g) t)).alloc (.cells (zX 0 0 0 0 Sl.nil 0 0) t) = W ∧ BoxG W w.heap.size n r md z s l g ∧ BoxG W (w.heap.size + 1) 0 0 0 0 Sl.nil 0 0 ∧ Below w.heap.size w W := by
 refine ⟨_, rfl, (BoxG.new w n r md z s l g t).below (zZ _ 0 0 0 0 Sl.nil 0 0 t), ?_, zA (zZ w n r md z s l g t) (zZ _ 0 0 0 0 Sl.nil 0 0 t)⟩;have := BoxG.new (w.alloc (.cells (zX n r md z s l g) t)) 0 0 0 0 Sl.nil 0 0 t
 rwa [World.size_alloc] at this
theorem zBl (g : Gn) (s : Sl) (frm : Int) (w : World) (h : RdM w s g.m.st) (hs : ∀ i, i < 8 → (g.m.st i).length ≤ 10000) :
  Calls Tryz.prog 106 #[ze g.num g.rev g.mode g.size s g.m.live g.m.garb, .int .i64 frm, .int .i64 (frm + 1)] w (GOO w s g.m.st (wO g frm)) := by
 have HV := zh (fun W (hb : Below w.heap.size w W) => vU g s W (h.below hb) hs);have HR0 := zh (show ∀ W, OldOwn W w.heap.size s g.m.st Sl.nil gn0.m.st from fun W => OldOwn.nil W _ _ _);have HRf := zh (show ∀ W, OldOwn W w.heap.size s g.m.st s g.m.st from fun W => OldOwn.refl W _ _ _);have HG := zh (show wO g frm = if wJ g = true then (if g.mode = frm then (0, { g with mode := frm + 1 }) else (12, gn0)) else (1, gn0) from rfl);generalize wJ g = vb at *;obtain ⟨n, r, md, z, ⟨f, L, G⟩⟩ := g;dsimp only at *;generalize wO ⟨n, r, md, z, ⟨f, L, G⟩⟩ frm = TG at *;obtain ⟨W, hW, hbx, hbr, hbw⟩ := vW w n r md z s L G 113;have HX := zh hbx;have HR := zh hbr;have HB := zh hbw;clear hbx hbr hbw h hs;generalize hmt : frm + 1 = mt at *;clear hmt
 go_enter Tryz.func106, Tryz.ntmps106
 go_upto_region 1 with fail;change Code.wp _ _ _ _ ((w.alloc (.cells (zX n r md z s L G) 113)).alloc (.cells (zX 0 0 0 0 Sl.nil 0 0) 113));rw [hW];clear hW;obtain ⟨x0, x1, x2, x3, x4, x5, x6, x7, x8, x9, x10, x11, x12, x13⟩ := HX.out.q;go_wp2_with fail;refine (HV.out _ HB.out).mono ?_;rintro e w1 ⟨rfl, hb1⟩;have HX1 := zh (HX.out.below hb1);have HR1 := zh (HR.out.below hb1);have HB1 := zh (zA HB.out hb1);clear x0 x1 x2 x3 x4 x5 x6 x7 x8 x9 x10 x11 x12 x13;clear hb1 HX HR HB HV;have hlr := HR1.out.lt
 cases vb
 ·
  have HPR := zh (show TG = (1, gn0) from HG.out);obtain ⟨r0, r1, r2, r3, r4, r5, r6, r7, r8, r9, r10, r11, r12, r13⟩ := HR1.out.q;have rf := HR1.out.f;go_wp2_with fail;change bodyPost _ _ _ _ _ (pts w1 (w.heap.size + 1) (zO 0 0 0 0 Sl.nil 0 0));have hby := HR1.out.all 0 0 0 0 Sl.nil 0 0;have HBz := zh (zD (B := w.heap.size) (b := (w.heap.size + 1)) (by omega) (zO 0 0 0 0 Sl.nil 0 0) HB1.out);have hrd := HR0.out (pts w1 (w.heap.size + 1) (zO 0 0 0 0 Sl.nil 0 0));rw [HPR.out];generalize pts w1 (w.heap.size + 1) (zO 0 0 0 0 Sl.nil 0 0) = V at *;exact bodyPost_ret (v := .tuple #[ze 0 0 0 0 Sl.nil 0 0, .int .i64 1]) (by simp [results, Tryz.results106, go_sem, hby.n0, hby.n1, hby.n2, hby.n3, hby.c0, hby.c1, hby.c2, hby.c3, hby.c4, hby.c5, hby.c6, hby.c7, hby.cl, hby.cg]) rfl ⟨⟨_, rfl, hrd⟩, HBz.out⟩
 by_cases hm : md = frm
 ·
  subst hm;have HPR := zh (show TG = (0, ⟨n, r, mt, z, ⟨f, L, G⟩⟩) by rw [HG.out, if_pos rfl, if_pos rfl]);clear HG;obtain ⟨x0, x1, x2, x3, x4, x5, x6, x7, x8, x9, x10, x11, x12, x13⟩ := HX1.out.q;have xf := HX1.out.f;go_upto_region 6 with fail;change Code.wp _ _ _ _ (pts w1 w.heap.size [(2, .int .i64 mt)]);have HX2 := zh (HX1.out.num2 mt);have HR2 := zh (HR1.out.pts_ne (show w.heap.size + 1 ≠ w.heap.size by omega) [(2, .int .i64 mt)]);have HB2 := zh (zD (B := w.heap.size) (b := w.heap.size) (Nat.le_refl _) [(2, .int .i64 mt)] HB1.out);generalize pts w1 w.heap.size [(2, .int .i64 mt)] = w2 at *;clear x0 x1 x2 x3 x4 x5 x6 x7 x8 x9 x10 x11 x12 x13 xf;clear HX1 HR1 HB1;obtain ⟨x0, x1, x2, x3, x4, x5, x6, x7, x8, x9, x10, x11, x12, x13⟩ := HX2.out.q;obtain ⟨r0, r1, r2, r3, r4, r5, r6, r7, r8, r9, r10, r11, r12, r13⟩ := HR2.out.q;have rf := HR2.out.f;go_wp2_with fail
  change bodyPost _ _ _ _ _ (pts w2 (w.heap.size + 1) (zO n r mt z s L G));have hby := HR2.out.all n r mt z s L G;have HBz := zh (zD (B := w.heap.size) (b := (w.heap.size + 1)) (by omega) (zO n r mt z s L G) HB2.out);have hrd := HRf.out (pts w2 (w.heap.size + 1) (zO n r mt z s L G));rw [HPR.out];generalize pts w2 (w.heap.size + 1) (zO n r mt z s L G) = V at *;exact bodyPost_ret (v := .tuple #[ze n r mt z s L G, .int .i64 0]) (by simp [results, Tryz.results106, go_sem, hby.n0, hby.n1, hby.n2, hby.n3, hby.c0, hby.c1, hby.c2, hby.c3, hby.c4, hby.c5, hby.c6, hby.c7, hby.cl, hby.cg]) rfl ⟨⟨_, rfl, hrd⟩, HBz.out⟩
 have HPR := zh (show TG = (12, gn0) by rw [HG.out, if_pos rfl, if_neg hm]);have e0 : (md == frm) = false := beq_eq_false_iff_ne.2 hm;clear HG;obtain ⟨x0, x1, x2, x3, x4, x5, x6, x7, x8, x9, x10, x11, x12, x13⟩ := HX1.out.q;obtain ⟨r0, r1, r2, r3, r4, r5, r6, r7, r8, r9, r10, r11, r12, r13⟩ := HR1.out.q;have rf := HR1.out.f;go_wp2_with fail;change bodyPost _ _ _ _ _ (pts w1 (w.heap.size + 1) (zO 0 0 0 0 Sl.nil 0 0));have hby := HR1.out.all 0 0 0 0 Sl.nil 0 0;have HBz := zh (zD (B := w.heap.size) (b := (w.heap.size + 1)) (by omega) (zO 0 0 0 0 Sl.nil 0 0) HB1.out);have hrd := HR0.out (pts w1 (w.heap.size + 1) (zO 0 0 0 0 Sl.nil 0 0));rw [HPR.out];generalize pts w1 (w.heap.size + 1) (zO 0 0 0 0 Sl.nil 0 0) = V at *
 exact bodyPost_ret (v := .tuple #[ze 0 0 0 0 Sl.nil 0 0, .int .i64 12]) (by simp [results, Tryz.results106, go_sem, hby.n0, hby.n1, hby.n2, hby.n3, hby.c0, hby.c1, hby.c2, hby.c3, hby.c4, hby.c5, hby.c6, hby.c7, hby.cl, hby.cg]) rfl ⟨⟨_, rfl, hrd⟩, HBz.out⟩
theorem zEB (g : Gn) (s : Sl) (w : World) (h : RdM w s g.m.st) (hs : ∀ i, i < 8 → (g.m.st i).length ≤ 10000) :
  Calls Tryz.prog 85 #[ze g.num g.rev g.mode g.size s g.m.live g.m.garb] w (GOO w s g.m.st (wO g 1)) := by
 have HT := zh (fun W (hb : Below w.heap.size w W) => zBl g s 1 W (h.below hb) hs);rw [show (1 : Int) + 1 = 2 from rfl] at HT;clear hs;generalize wO g 1 = TG at *;obtain ⟨n, r, md, z, ⟨f, L, G⟩⟩ := g;dsimp only at *;obtain ⟨W, hW, hbx, hbr, hbw⟩ := vW w n r md z s L G 113;have HX := zh hbx;have HR := zh hbr;have HB := zh hbw;clear hbx hbr hbw h
 go_enter Tryz.func85, Tryz.ntmps85
 go_upto_region 1 with fail;change Code.wp _ _ _ _ ((w.alloc (.cells (zX n r md z s L G) 113)).alloc (.cells (zX 0 0 0 0 Sl.nil 0 0) 113));rw [hW];clear hW;obtain ⟨x0, x1, x2, x3, x4, x5, x6, x7, x8, x9, x10, x11, x12, x13⟩ := HX.out.q;go_wp2_with fail;refine (HT.out _ HB.out).mono ?_;rintro e w1 ⟨⟨t, rfl, hr⟩, hb⟩;have HRd := zh (hr.mono (show w.heap.size + 2 ≤ W.heap.size by have := HR.out.lt; omega));have HR1 := zh (HR.out.below hb);have HB1 := zh (zA HB.out hb);have hlr := HR.out.lt;clear x0 x1 x2 x3 x4 x5 x6 x7 x8 x9 x10 x11 x12 x13;clear hr HX HT HR HB;obtain ⟨er, ⟨n', r', md', z', ⟨f', L', G'⟩⟩⟩ := TG;dsimp only at *;obtain ⟨r0, r1, r2, r3, r4, r5, r6, r7, r8, r9, r10, r11, r12, r13⟩ := HR1.out.q;have rf := HR1.out.f;go_wp2_with fail;change bodyPost _ _ _ _ _ (pts w1 (w.heap.size + 1) (zO n' r' md' z' t L' G'));have hby := HR1.out.all n' r' md' z' t L' G'
 have HBz := zh (zD (B := w.heap.size) (b := (w.heap.size + 1)) (by omega) (zO n' r' md' z' t L' G') HB1.out);have hrd := (HRd.out.pts (show w.heap.size + 1 < w.heap.size + 2 by omega) (zO n' r' md' z' t L' G')).mono (show w.heap.size ≤ w.heap.size + 2 by omega);generalize pts w1 (w.heap.size + 1) (zO n' r' md' z' t L' G') = V at *;exact bodyPost_ret (v := .tuple #[ze n' r' md' z' t L' G', .int .i64 er]) (by simp [results, Tryz.results85, go_sem, hby.n0, hby.n1, hby.n2, hby.n3, hby.c0, hby.c1, hby.c2, hby.c3, hby.c4, hby.c5, hby.c6, hby.c7, hby.cl, hby.cg]) rfl ⟨⟨_, rfl, hrd⟩, HBz.out⟩
theorem zGy (g : Gn) (s : Sl) (w : World) (h : RdM w s g.m.st) (hs : ∀ i, i < 8 → (g.m.st i).length ≤ 10000) :
  Calls Tryz.prog 65 #[ze g.num g.rev g.mode g.size s g.m.live g.m.garb] w (GOO w s g.m.st (wO g 2)) := by
 have HT := zh (fun W (hb : Below w.heap.size w W) => zBl g s 2 W (h.below hb) hs);rw [show (2 : Int) + 1 = 3 from rfl] at HT;clear hs;generalize wO g 2 = TG at *;obtain ⟨n, r, md, z, ⟨f, L, G⟩⟩ := g;dsimp only at *;obtain ⟨W, hW, hbx, hbr, hbw⟩ := vW w n r md z s L G 113;have HX := zh hbx;have HR := zh hbr;have HB := zh hbw;clear hbx hbr hbw h
 go_enter Tryz.func65, Tryz.ntmps65
 go_upto_region 1 with fail;change Code.wp _ _ _ _ ((w.alloc (.cells (zX n r md z s L G) 113)).alloc (.cells (zX 0 0 0 0 Sl.nil 0 0) 113));rw [hW];clear hW;obtain ⟨x0, x1, x2, x3, x4, x5, x6, x7, x8, x9, x10, x11, x12, x13⟩ := HX.out.q;go_wp2_with fail;refine (HT.out _ HB.out).mono ?_;rintro e w1 ⟨⟨t, rfl, hr⟩, hb⟩;have HRd := zh (hr.mono (show w.heap.size + 2 ≤ W.heap.size by have := HR.out.lt; omega));have HR1 := zh (HR.out.below hb);have HB1 := zh (zA HB.out hb);have hlr := HR.out.lt;clear x0 x1 x2 x3 x4 x5 x6 x7 x8 x9 x10 x11 x12 x13;clear hr HX HT HR HB;obtain ⟨er, ⟨n', r', md', z', ⟨f', L', G'⟩⟩⟩ := TG;dsimp only at *;obtain ⟨r0, r1, r2, r3, r4, r5, r6, r7, r8, r9, r10, r11, r12, r13⟩ := HR1.out.q;have rf := HR1.out.f;go_wp2_with fail;change bodyPost _ _ _ _ _ (pts w1 (w.heap.size + 1) (zO n' r' md' z' t L' G'));have hby := HR1.out.all n' r' md' z' t L' G'
 have HBz := zh (zD (B := w.heap.size) (b := (w.heap.size + 1)) (by omega) (zO n' r' md' z' t L' G') HB1.out);have hrd := (HRd.out.pts (show w.heap.size + 1 < w.heap.size + 2 by omega) (zO n' r' md' z' t L' G')).mono (show w.heap.size ≤ w.heap.size + 2 by omega);generalize pts w1 (w.heap.size + 1) (zO n' r' md' z' t L' G') = V at *;exact bodyPost_ret (v := .tuple #[ze n' r' md' z' t L' G', .int .i64 er]) (by simp [results, Tryz.results65, go_sem, hby.n0, hby.n1, hby.n2, hby.n3, hby.c0, hby.c1, hby.c2, hby.c3, hby.c4, hby.c5, hby.c6, hby.c7, hby.cl, hby.cg]) rfl ⟨⟨_, rfl, hrd⟩, HBz.out⟩
end Go.Proofs.YtcgfilmmokmdjaaGreat
