/- A part of the walk. -/
import Derived.Test.YtcgfilmmokmdjaaGreatQAH
import Derived.Test.YtcgfilmmokmdjaaGreatQAF
import Derived.StillTailTactics
set_option linter.all false
set_option maxRecDepth 100000
set_option maxHeartbeats 32000000
namespace Go.Proofs.YtcgfilmmokmdjaaGreat
open Go.RowKit
theorem vW (g : Gn) (s : Sl) (w : World) (h : fw w s g.m.st) (hs : ∀ i, i < 8 → (g.m.st i).length ≤ 10000) :
  Calls Tryz.prog 49 #[za g.num g.rev g.mode g.size s g.m.live g.m.dW] w fun e w' => e = .returned (.bool (wB g)) ∧ Below w.heap.size w w' := by
 have HV := zh (fun W h => vS s g.m W h (fun i hi => ak (hs i hi) (by decide)));have HI := zh (fun W h => VO s g.m W h hs);have iR := zh (fun h => Wo (g := g) h);have jo := zh (yD g);have Hr := zh h;have eE := zh (eA.new w g.num g.rev g.mode g.size s g.m.live g.m.dW 38);have eD := zh (zQ w g.num g.rev g.mode g.size s g.m.live g.m.dW 38);generalize hres : wB g = res at *
 by_cases hA : 1 ≤ g.num ∧ g.num ≤ 8 ∧ 0 ≤ g.rev ∧ g.rev ≤ 4294967295 ∧ 1 ≤ g.mode ∧ g.mode ≤ 3
 ·
  obtain ⟨QC, QD, QE, QF, QG, QH⟩ := hA
  by_cases hB : 16 ≤ g.size ∧ g.size ≤ 1048576 ∧ g.size % 8 = 0
  ·
   have rY : (zI g.m).length ≤ 1000000 := ak (wK hs) (by decide);have hm : yw g.m = true → (∀ x ∈ zI g.m, nt x) ∧ g.m.live = (zv (vA g.m) : Int) ∧ zv (vA g.m) ≤ 330160000 ∧ 0 ≤ g.m.dW ∧ g.m.dW ≤ 1099511627776 := fun hv => by
    have hV := (zV g.m).1 hv;refine ⟨qF hV, hV.lv, ?_, hV.g0, hV.g1⟩;have h1 := tp (vA g.m);have h2 := tR hs;have : (vA g.m).length * 4127 ≤ 80000 * 4127 := aW _ h2;omega
   have hend : yw g.m = true → res = (vU (zI g.m) g.size && (g.size == 16 + g.m.live + g.m.dW)) := fun hv => by
    rw [dw, ← hres, yD, aM, cz];exact ⟨fun h => ⟨h.ends, h.sum⟩, fun h => ⟨⟨QC, QD⟩, ⟨QE, QF⟩, ⟨QG, QH⟩, hB, hv, h.1, h.2⟩⟩
   have hno : yw g.m = false → res = false := fun hv => iR.out fun h => by rw [h.m] at hv; cases hv
   have HM := zh hm;have HE := zh hend;have HN := zh hno;clear hm hend hno iR jo hres h hs;have Wr := zh (fun v W' N (h : fg W' N v (zI g.m)) (h2 : N ≤ W'.heap.size) hok => zJl v (zI g.m) g.size W' N h2 h hok rY hB.1);have oI := hB.1;have hd2 := hB.2.1;have Cr := hB.2.2;clear hB rY;generalize yw g.m = vb at *;generalize zI g.m = I at *;generalize zv (vA g.m) = SM at *;generalize hen : vU I g.size = eb at *;clear hen;obtain ⟨a, b, c, d, f, L, G⟩ := g;dsimp only at *;have QI : d.tmod 8 = 0 := by rw [Int.tmod_eq_emod_of_nonneg (by omega)]; exact Cr
   go_enter Tryz.func49, Tryz.ntmps49
   go_upto_region 1 with fail;obtain ⟨W, hW⟩ : ∃ W, w.alloc (.cells (zW a b c d s L G) 38) = W := ⟨_, rfl⟩
   change Code.wp _ _ _ _ (w.alloc (.cells (zW a b c d s L G) 38));rw [hW] at eE eD ⊢;have rE := eE.out.lt;obtain ⟨n0, n1, n2, n3, c0, c1, c2, c3, c4, c5, c6, c7, c8, c9⟩ := eE.out.q;clear hW;go_wp2_with fail;refine (HV.out _ (Hr.out.below eD.out)).mono ?_; rintro e w1 ⟨rfl, hb1⟩;have eQ := zh (zA eD.out hb1);have fp := zh (eE.out.below hb1);have eY := zh (Hr.out.below eQ.out);clear hb1 HV eE eD n0 n1 n2 n3 c0 c1 c2 c3 c4 c5 c6 c7 c8 c9
   cases vb
   ·
    have HF := zh (HN.out rfl);go_wp2_with fail;go_ret;exact ⟨zE HF.out.symm, eQ.out⟩
   obtain ⟨hok, rfl, hL, Ct, QJ⟩ := HM.out rfl;have HF := zh (HE.out rfl);have Ws := zh (fun v W' N h h2 => Wr.out v W' N h h2 hok);clear Wr HE HN HM hok;have KT := fp.out.lt;generalize hb0 : w.heap.size = b0 at *;have E0 := zh hb0;clear hb0
   have Ab := zh (show ∀ WV, Below w1.heap.size w1 WV → WV.cell? ⟨b0, 3, none⟩ = some (.int .i64 d) ∧ WV.cell? ⟨b0, 4, none⟩ = some (.slice (s.a 0) (s.n 0) (s.c 0)) ∧ WV.cell? ⟨b0, 5, none⟩ = some (.slice (s.a 1) (s.n 1) (s.c 1)) ∧ WV.cell? ⟨b0, 6, none⟩ = some (.slice (s.a 2) (s.n 2) (s.c 2)) ∧ WV.cell? ⟨b0, 7, none⟩ = some (.slice (s.a 3) (s.n 3) (s.c 3)) ∧ WV.cell? ⟨b0, 8, none⟩ = some (.slice (s.a 4) (s.n 4) (s.c 4)) ∧ WV.cell? ⟨b0, 9, none⟩ = some (.slice (s.a 5) (s.n 5) (s.c 5)) ∧ WV.cell? ⟨b0, 10, none⟩ = some (.slice (s.a 6) (s.n 6) (s.c 6)) ∧ WV.cell? ⟨b0, 11, none⟩ = some (.slice (s.a 7) (s.n 7) (s.c 7)) ∧ WV.cell? ⟨b0, 12, none⟩ = some (.int .i64 (SM : Int)) ∧ WV.cell? ⟨b0, 13, none⟩ = some (.int .i64 G) from fun WV hb => have h := fp.out.below hb; ⟨h.n3, h.c0, h.c1, h.c2, h.c3, h.c4, h.c5, h.c6, h.c7, h.cl, h.cg⟩)
   cases eb
   ·
    go_wp2_with fail;refine wp_region_held_drew (S := fun w' => w'.cell? ⟨b0, 3, none⟩ = some (.int .i64 d) ∧ w'.cell? ⟨b0, 4, none⟩ = some (.slice (s.a 0) (s.n 0) (s.c 0)) ∧ w'.cell? ⟨b0, 5, none⟩ = some (.slice (s.a 1) (s.n 1) (s.c 1)) ∧ w'.cell? ⟨b0, 6, none⟩ = some (.slice (s.a 2) (s.n 2) (s.c 2)) ∧ w'.cell? ⟨b0, 7, none⟩ = some (.slice (s.a 3) (s.n 3) (s.c 3)) ∧ w'.cell? ⟨b0, 8, none⟩ = some (.slice (s.a 4) (s.n 4) (s.c 4)) ∧ w'.cell? ⟨b0, 9, none⟩ = some (.slice (s.a 5) (s.n 5) (s.c 5)) ∧ w'.cell? ⟨b0, 10, none⟩ = some (.slice (s.a 6) (s.n 6) (s.c 6)) ∧ w'.cell? ⟨b0, 11, none⟩ = some (.slice (s.a 7) (s.n 7) (s.c 7)) ∧ w'.cell? ⟨b0, 12, none⟩ = some (.int .i64 (SM : Int)) ∧ w'.cell? ⟨b0, 13, none⟩ = some (.int .i64 G)) (by kernel_rfl) (Ab.out _ (aj _ _).drew) ?_;intro hS0
    refine bE (i := 0) (v := ?_) rfl (by kernel_rfl) (by kernel_rfl) (by kernel_rfl) (fun _ _ _ h => h) (Or.inl ⟨by rfl, ?_⟩) (by assumption) ?_
    rotate_left
    ·
     intro w hSw
     try dsimp only at hSw
     go_simp
     with_reducible rfl
    try simp only [aV, a_, Act.put, aP, aQ, aN]
    refine bE (i := 1) (v := ?_) rfl (by kernel_rfl) (by kernel_rfl) (by kernel_rfl) (fun _ _ _ h => h) (Or.inl ⟨by rfl, ?_⟩) (by assumption) ?_
    rotate_left
    ·
     intro w hSw
     try dsimp only at hSw
     go_simp
     with_reducible rfl
    try simp only [aV, bt, a_, Act.put, aP, aQ, aN]
    refine bE (i := 3) (v := ?_) rfl (by kernel_rfl) (by kernel_rfl) (by kernel_rfl) (fun _ _ _ h => h) (Or.inl ⟨by rfl, ?_⟩) (by assumption) ?_
    rotate_left
    ·
     intro w hSw
     try dsimp only at hSw
     go_simp
     with_reducible rfl
    try simp only [aV, bt, a_, Act.put, aP, aQ, aN]
    refine bE (i := 4) (v := ?_) rfl (by kernel_rfl) (by kernel_rfl) (by kernel_rfl) (fun _ _ _ h => h) (Or.inl ⟨by rfl, ?_⟩) (by assumption) ?_
    rotate_left
    ·
     intro w hSw
     try dsimp only at hSw
     go_simp
     with_reducible rfl
    try simp only [aV, bt, a_, Act.put, aP, aQ, aN]
    refine wpAnyH_ready (rs := [2]) (by kernel_rfl) (by simp) ?_;refine AllReadyH.cons rfl (fun K hK => ?_) AllReadyH.nil;simp only [aV, bt, a_]
    go_simp
    go_at_call 89
    refine (HI.out _ (eY.out.below (aj _ _).drew)).mono ?_;rintro e wa ⟨va, rfl, ll, eG⟩;dsimp only;refine hK.out _ _ (Ab.out _ (zA (aj _ _).drew eG)) (fun hHeld => ?_);clear hK
    try simp only [aV, bt, a_, Act.put, aP, aQ, aN]
    refine wpAnyH_ready (rs := [5]) (by kernel_rfl) (by simp) ?_;refine AllReadyH.cons rfl (fun K hK => ?_) AllReadyH.nil;simp only [aV, bt, a_]
    go_simp
    go_at_call 88
    refine (Ws.out _ _ w1.heap.size ll eG.size).mono ?_;rintro e wb ⟨rfl, jN⟩;dsimp only;refine hK.out _ _ (Ab.out _ ((zA (aj _ _).drew eG).trans jN)) (fun hHeld => ?_);clear hK
    try simp only [aV, bt, a_, Act.put, aP, aQ, aN]
    refine bE (i := 6) (v := ?_) rfl (by kernel_rfl) (by kernel_rfl) (by kernel_rfl) (fun _ _ _ h => h) (Or.inl ⟨by rfl, ?_⟩) (by assumption) ?_
    rotate_left
    ·
     intro w hSw
     try dsimp only at hSw
     go_simp
     with_reducible rfl
    try simp only [aV, bt, a_, Act.put, aP, aQ, aN]
    refine bE (i := 7) (v := undef) rfl (by kernel_rfl) (by kernel_rfl) (by kernel_rfl) (fun _ _ _ h => h) (Or.inr ⟨by rfl, rfl⟩) (by assumption) ?_
    try simp only [aV, bt, a_, Act.put, aP, aQ, aN]
    refine bE (i := 8) (v := undef) rfl (by kernel_rfl) (by kernel_rfl) (by kernel_rfl) (fun _ _ _ h => h) (Or.inr ⟨by rfl, rfl⟩) (by assumption) ?_
    try simp only [aV, bt, a_, Act.put, aP, aQ, aN]
    refine bE (i := 9) (v := undef) rfl (by kernel_rfl) (by kernel_rfl) (by kernel_rfl) (fun _ _ _ h => h) (Or.inr ⟨by rfl, rfl⟩) (by assumption) ?_
    try simp only [aV, bt, a_, Act.put, aP, aQ, aN]
    refine bE (i := 10) (v := undef) rfl (by kernel_rfl) (by kernel_rfl) (by kernel_rfl) (fun _ _ _ h => h) (Or.inr ⟨by rfl, rfl⟩) (by assumption) ?_
    try simp only [aV, bt, a_, Act.put, aP, aQ, aN]
    refine bE (i := 11) (v := undef) rfl (by kernel_rfl) (by kernel_rfl) (by kernel_rfl) (fun _ _ _ h => h) (Or.inr ⟨by rfl, rfl⟩) (by assumption) ?_
    try simp only [aV, bt, a_, Act.put, aP, aQ, aN]
    refine bE (i := 12) (v := undef) rfl (by kernel_rfl) (by kernel_rfl) (by kernel_rfl) (fun _ _ _ h => h) (Or.inr ⟨by rfl, rfl⟩) (by assumption) ?_
    try simp only [aV, bt, a_, Act.put, aP, aQ, aN]
    refine bE (i := 13) (v := undef) rfl (by kernel_rfl) (by kernel_rfl) (by kernel_rfl) (fun _ _ _ h => h) (Or.inr ⟨by rfl, rfl⟩) (by assumption) ?_
    try simp only [aV, bt, a_, Act.put, aP, aQ, aN]
    refine bE (i := 14) (v := undef) rfl (by kernel_rfl) (by kernel_rfl) (by kernel_rfl) (fun _ _ _ h => h) (Or.inr ⟨by rfl, rfl⟩) (by assumption) ?_
    try simp only [aV, bt, a_, Act.put, aP, aQ, aN]
    refine bE (i := 15) (v := undef) rfl (by kernel_rfl) (by kernel_rfl) (by kernel_rfl) (fun _ _ _ h => h) (Or.inr ⟨by rfl, rfl⟩) (by assumption) ?_
    try simp only [aV, bt, a_, Act.put, aP, aQ, aN]
    refine bE (i := 16) (v := undef) rfl (by kernel_rfl) (by kernel_rfl) (by kernel_rfl) (fun _ _ _ h => h) (Or.inr ⟨by rfl, rfl⟩) (by assumption) ?_
    try simp only [aV, bt, a_, Act.put, aP, aQ, aN]
    refine bE (i := 17) (v := undef) rfl (by kernel_rfl) (by kernel_rfl) (by kernel_rfl) (fun _ _ _ h => h) (Or.inr ⟨by rfl, rfl⟩) (by assumption) ?_
    try simp only [aV, bt, a_, Act.put, aP, aQ, aN]
    refine bE (i := 18) (v := ?_) rfl (by kernel_rfl) (by kernel_rfl) (by kernel_rfl) (fun _ _ _ h => h) (Or.inl ⟨by rfl, ?_⟩) (by assumption) ?_
    rotate_left
    ·
     intro w hSw
     try dsimp only at hSw
     go_simp
     with_reducible rfl
    try simp only [aV, bt, a_, Act.put, aP, aQ, aN]
    refine bE (i := 19) (v := ?_) rfl (by kernel_rfl) (by kernel_rfl) (by kernel_rfl) (fun _ _ _ h => h) (Or.inl ⟨by rfl, ?_⟩) (by assumption) ?_
    rotate_left
    ·
     intro w hSw
     try dsimp only at hSw
     go_simp
     with_reducible rfl
    try simp only [aV, bt, a_, Act.put, aP, aQ, aN]
    refine wpAnyH_done (by kernel_rfl) ?_ _;have HZ := zh (iP eQ.out (bM KT) ((zA (aj _ _).drew eG).trans jN));clear eG jN ll;go_wp2_with fail;go_ret;exact ⟨zE HF.out.symm, by rw [E0.out]; exact HZ.out⟩
   go_wp2_with fail
   go_region_held3 (fun w' => w'.cell? ⟨b0, 3, none⟩ = some (.int .i64 d) ∧ w'.cell? ⟨b0, 4, none⟩ = some (.slice (s.a 0) (s.n 0) (s.c 0)) ∧ w'.cell? ⟨b0, 5, none⟩ = some (.slice (s.a 1) (s.n 1) (s.c 1)) ∧ w'.cell? ⟨b0, 6, none⟩ = some (.slice (s.a 2) (s.n 2) (s.c 2)) ∧ w'.cell? ⟨b0, 7, none⟩ = some (.slice (s.a 3) (s.n 3) (s.c 3)) ∧ w'.cell? ⟨b0, 8, none⟩ = some (.slice (s.a 4) (s.n 4) (s.c 4)) ∧ w'.cell? ⟨b0, 9, none⟩ = some (.slice (s.a 5) (s.n 5) (s.c 5)) ∧ w'.cell? ⟨b0, 10, none⟩ = some (.slice (s.a 6) (s.n 6) (s.c 6)) ∧ w'.cell? ⟨b0, 11, none⟩ = some (.slice (s.a 7) (s.n 7) (s.c 7)) ∧ w'.cell? ⟨b0, 12, none⟩ = some (.int .i64 (SM : Int)) ∧ w'.cell? ⟨b0, 13, none⟩ = some (.int .i64 G))
   (first | with_reducible exact Ab.out _ ((zA (aj _ _).drew eG).trans jN) | with_reducible exact Ab.out _ (zA (aj _ _).drew eG) | exact Ab.out _ (aj _ _).drew)
   (first | (go_at_call 89; (with_reducible refine (HI.out _ (eY.out.below (aj _ _).drew)).mono ?_); rintro e wa ⟨va, rfl, ll, eG⟩) | (go_at_call 88; refine (Ws.out _ _ w1.heap.size ll eG.size).mono ?_; rintro e wb ⟨rfl, jN⟩))
   rename_i hHeld;clear hHeld;have HZ := zh (iP eQ.out (bM KT) ((zA (aj _ _).drew eG).trans jN));clear eG jN ll;go_wp2_with fail;go_ret;exact ⟨zE (by rw [HF.out, cG, aH (16 + (SM : Int)) (by omega), aH _ (by omega)]), by rw [E0.out]; exact HZ.out⟩
  have hf : res = false := iR.out fun hv => hB ⟨hv.size.1, hv.size.2.1, hv.size.2.2⟩
  have HF := zh hf;have HB := zh hB;clear hB hf iR jo hres h hs HI;generalize yw g.m = vb at *;obtain ⟨a, b, c, d, f, L, G⟩ := g;dsimp only at *
  go_enter Tryz.func49, Tryz.ntmps49
  go_upto_region 1 with fail;obtain ⟨W, hW⟩ : ∃ W, w.alloc (.cells (zW a b c d s L G) 38) = W := ⟨_, rfl⟩
  change Code.wp _ _ _ _ (w.alloc (.cells (zW a b c d s L G) 38));rw [hW] at eE eD ⊢;have rE := eE.out.lt;have n0 := eE.out.n0;have n1 := eE.out.n1;have n2 := eE.out.n2;have n3 := eE.out.n3;have hb := HB.out;clear hW;have hc : d < 16 ∨ (16 ≤ d ∧ 1048576 < d) ∨ (16 ≤ d ∧ d ≤ 1048576 ∧ d % 8 ≠ 0) := by omega
  clear hb;rcases hc with hc | ⟨h1, hc⟩ | ⟨h1, h2, hc⟩
  ·
   go_wp2_with fail;go_ret;exact ⟨zE HF.out.symm, eD.out⟩
  ·
   go_wp2_with fail;go_ret;exact ⟨zE HF.out.symm, eD.out⟩
  have QI : d.tmod 8 = d % 8 := Int.tmod_eq_emod_of_nonneg (by omega);have od : (d % 8 != 0) = true := by simp [hc]
  go_wp2_with fail;go_ret;exact ⟨zE HF.out.symm, eD.out⟩
 have hf : res = false := iR.out fun hv => hA ⟨hv.num.1, hv.num.2, hv.rev.1, hv.rev.2, hv.mode.1, hv.mode.2⟩
 have HF := zh hf;have HA := zh hA;clear hA hf iR jo hres h hs HV HI;obtain ⟨a, b, c, d, f, L, G⟩ := g;dsimp only at *
 go_enter Tryz.func49, Tryz.ntmps49
 go_upto_region 1 with fail;obtain ⟨W, hW⟩ : ∃ W, w.alloc (.cells (zW a b c d s L G) 38) = W := ⟨_, rfl⟩
 change Code.wp _ _ _ _ (w.alloc (.cells (zW a b c d s L G) 38));rw [hW] at eE eD ⊢;have rE := eE.out.lt;have n0 := eE.out.n0;have n1 := eE.out.n1;have n2 := eE.out.n2;have ha := HA.out;clear hW;have hc : a < 1 ∨ (1 ≤ a ∧ 8 < a) ∨ (1 ≤ a ∧ a ≤ 8 ∧ b < 0) ∨ (1 ≤ a ∧ a ≤ 8 ∧ 0 ≤ b ∧ 4294967295 < b) ∨ (1 ≤ a ∧ a ≤ 8 ∧ 0 ≤ b ∧ b ≤ 4294967295 ∧ c < 1) ∨ (1 ≤ a ∧ a ≤ 8 ∧ 0 ≤ b ∧ b ≤ 4294967295 ∧ 1 ≤ c ∧ 3 < c) := by omega
 clear ha;rcases hc with hc | ⟨h1, hc⟩ | ⟨h1, h2, hc⟩ | ⟨h1, h2, h3, hc⟩ | ⟨h1, h2, h3, h4, hc⟩ | ⟨h1, h2, h3, h4, h5, hc⟩ <;>
 (go_wp2_with fail; go_ret; exact ⟨zE HF.out.symm, eD.out⟩)
end Go.Proofs.YtcgfilmmokmdjaaGreat
