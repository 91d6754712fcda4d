/- A part of the walk. -/
import Derived.Test.YtcgfilmmokmdjaaGreatQAI
import Derived.Test.YtcgfilmmokmdjaaGreatQAG
import Derived.StillTailTactics
set_option linter.all false
set_option maxRecDepth 100000
set_option maxHeartbeats 32000000
namespace Go.Proofs.YtcgfilmmokmdjaaGreat
open Go.RowKit
theorem ub (g : Gn) (s : Sl) (w : World) (h : RdM w s g.m.st) (hs : ∀ i, i < 8 → (g.m.st i).length ≤ 10000) :
  Calls Tryz.prog 49 #[ze g.num g.rev g.mode g.size s g.m.live g.m.garb] w fun e w' => e = .returned (.bool (wJ g)) ∧ Below w.heap.size w w' := by
 have HV := zh (fun W h => vL s g.m W h (fun i hi => Nat.le_trans (hs i hi) (by decide)));have HI := zh (fun W h => zAy s g.m W h hs);have HNo := zh (fun h => zDw (g := g) h);have HYes := zh (yD g);have Hr := zh h;have HBx := zh (BoxG.new w g.num g.rev g.mode g.size s g.m.live g.m.garb 38);have HB0 := zh (zZ w g.num g.rev g.mode g.size s g.m.live g.m.garb 38);generalize hres : wJ g = res at *
 by_cases hA : 1 ≤ g.num ∧ g.num ≤ 8 ∧ 0 ≤ g.rev ∧ g.rev ≤ 4294967295 ∧ 1 ≤ g.mode ∧ g.mode ≤ 3
 ·
  obtain ⟨hA1, hA2, hA3, hA4, hA5, hA6⟩ := hA
  by_cases hB : 16 ≤ g.size ∧ g.size ≤ 1048576 ∧ g.size % 8 = 0
  ·
   have hIl : (zG g.m).length ≤ 1000000 := Nat.le_trans (xw hs) (by decide);have hm : yX g.m = true → (∀ x ∈ zG g.m, okP x) ∧ g.m.live = (zq (ws g.m) : Int) ∧ zq (ws g.m) ≤ 330160000 ∧ 0 ≤ g.m.garb ∧ g.m.garb ≤ 1099511627776 := fun hv => by
    have hV := (zM g.m).1 hv;refine ⟨tX hV, hV.lv, ?_, hV.g0, hV.g1⟩;have h1 := tI (ws g.m);have h2 := us hs;have : (ws g.m).length * 4127 ≤ 80000 * 4127 := Nat.mul_le_mul_right _ h2;omega
   have hend : yX g.m = true → res = (vM (zG g.m) g.size && (g.size == 16 + g.m.live + g.m.garb)) := fun hv => by
    rw [Bool.eq_iff_iff, ← hres, yD, Bool.and_eq_true, beq_iff_eq];exact ⟨fun h => ⟨h.ends, h.sum⟩, fun h => ⟨⟨hA1, hA2⟩, ⟨hA3, hA4⟩, ⟨hA5, hA6⟩, hB, hv, h.1, h.2⟩⟩
   have hno : yX g.m = false → res = false := fun hv => HNo.out fun h => by rw [h.m] at hv; cases hv
   have HM := zh hm;have HE := zh hend;have HN := zh hno;clear hm hend hno HNo HYes hres h hs;have HFt := zh (fun v W' N (h : OwnT W' N v (zG g.m)) (h2 : N ≤ W'.heap.size) hok => zJC v (zG g.m) g.size W' N h2 h hok hIl hB.1);have hd1 := hB.1;have hd2 := hB.2.1;have hd3 := hB.2.2;clear hB hIl;generalize yX g.m = vb at *;generalize zG g.m = I at *;generalize zq (ws g.m) = SM at *;generalize hen : vM I g.size = eb at *;clear hen;obtain ⟨a, b, c, d, f, L, G⟩ := g;dsimp only at *;have hdm : d.tmod 8 = 0 := by rw [Int.tmod_eq_emod_of_nonneg (by omega)]; exact hd3
   go_enter Tryz.func49, Tryz.ntmps49
   go_upto_region 1 with fail;obtain ⟨W, hW⟩ : ∃ W, w.alloc (.cells (zX a b c d s L G) 38) = W := ⟨_, rfl⟩
   change Code.wp _ _ _ _ (w.alloc (.cells (zX a b c d s L G) 38));rw [hW] at HBx HB0 ⊢;have hlw := HBx.out.lt;obtain ⟨n0, n1, n2, n3, c0, c1, c2, c3, c4, c5, c6, c7, c8, c9⟩ := HBx.out.q;clear hW;go_wp2_with fail;refine (HV.out _ (Hr.out.below HB0.out)).mono ?_; rintro e w1 ⟨rfl, hb1⟩;have HB1 := zh (zA HB0.out hb1);have HX1 := zh (HBx.out.below hb1);have HR1 := zh (Hr.out.below HB1.out);clear hb1 HV HBx HB0 n0 n1 n2 n3 c0 c1 c2 c3 c4 c5 c6 c7 c8 c9
   cases vb
   ·
    have HF := zh (HN.out rfl);go_wp2_with fail;go_ret;exact ⟨zE HF.out.symm, HB1.out⟩
   obtain ⟨hok, rfl, hL, hG1, hG2⟩ := HM.out rfl;have HF := zh (HE.out rfl);have HFu := zh (fun v W' N h h2 => HFt.out v W' N h h2 hok);clear HFt HE HN HM hok;have hlw1 := HX1.out.lt;generalize hb0 : w.heap.size = b0 at *;have E0 := zh hb0;clear hb0
   have HSX := zh (show ∀ WV, Below w1.heap.size w1 WV → WV.cell? ⟨b0, 3, none⟩ = some (.int .i64 d) ∧ WV.cell? ⟨b0, 4, none⟩ = some (.slice (s.a 0) (s.n 0) (s.c 0)) ∧ WV.cell? ⟨b0, 5, none⟩ = some (.slice (s.a 1) (s.n 1) (s.c 1)) ∧ WV.cell? ⟨b0, 6, none⟩ = some (.slice (s.a 2) (s.n 2) (s.c 2)) ∧ WV.cell? ⟨b0, 7, none⟩ = some (.slice (s.a 3) (s.n 3) (s.c 3)) ∧ WV.cell? ⟨b0, 8, none⟩ = some (.slice (s.a 4) (s.n 4) (s.c 4)) ∧ WV.cell? ⟨b0, 9, none⟩ = some (.slice (s.a 5) (s.n 5) (s.c 5)) ∧ WV.cell? ⟨b0, 10, none⟩ = some (.slice (s.a 6) (s.n 6) (s.c 6)) ∧ WV.cell? ⟨b0, 11, none⟩ = some (.slice (s.a 7) (s.n 7) (s.c 7)) ∧ WV.cell? ⟨b0, 12, none⟩ = some (.int .i64 (SM : Int)) ∧ WV.cell? ⟨b0, 13, none⟩ = some (.int .i64 G) from fun WV hb => have h := HX1.out.below hb; ⟨h.n3, h.c0, h.c1, h.c2, h.c3, h.c4, h.c5, h.c6, h.c7, h.cl, h.cg⟩)
   cases eb
   ·
    go_wp2_with fail;refine wp_region_held_drew (S := fun w' => w'.cell? ⟨b0, 3, none⟩ = some (.int .i64 d) ∧ w'.cell? ⟨b0, 4, none⟩ = some (.slice (s.a 0) (s.n 0) (s.c 0)) ∧ w'.cell? ⟨b0, 5, none⟩ = some (.slice (s.a 1) (s.n 1) (s.c 1)) ∧ w'.cell? ⟨b0, 6, none⟩ = some (.slice (s.a 2) (s.n 2) (s.c 2)) ∧ w'.cell? ⟨b0, 7, none⟩ = some (.slice (s.a 3) (s.n 3) (s.c 3)) ∧ w'.cell? ⟨b0, 8, none⟩ = some (.slice (s.a 4) (s.n 4) (s.c 4)) ∧ w'.cell? ⟨b0, 9, none⟩ = some (.slice (s.a 5) (s.n 5) (s.c 5)) ∧ w'.cell? ⟨b0, 10, none⟩ = some (.slice (s.a 6) (s.n 6) (s.c 6)) ∧ w'.cell? ⟨b0, 11, none⟩ = some (.slice (s.a 7) (s.n 7) (s.c 7)) ∧ w'.cell? ⟨b0, 12, none⟩ = some (.int .i64 (SM : Int)) ∧ w'.cell? ⟨b0, 13, none⟩ = some (.int .i64 G)) (by kernel_rfl) (HSX.out _ (Below.refl _ _).drew) ?_;intro hS0
    refine wpAnyH_take (i := 0) (v := ?_) rfl (by kernel_rfl) (by kernel_rfl) (by kernel_rfl) (fun _ _ _ h => h) (Or.inl ⟨by rfl, ?_⟩) (by assumption) ?_
    rotate_left
    ·
     intro w hSw
     try dsimp only at hSw
     go_simp
     with_reducible rfl
    try simp only [List.getElem_toArray, List.getElem_cons_zero, Act.put, List.setIfInBounds_toArray, List.set_cons_zero, List.set_cons_succ]
    refine wpAnyH_take (i := 1) (v := ?_) rfl (by kernel_rfl) (by kernel_rfl) (by kernel_rfl) (fun _ _ _ h => h) (Or.inl ⟨by rfl, ?_⟩) (by assumption) ?_
    rotate_left
    ·
     intro w hSw
     try dsimp only at hSw
     go_simp
     with_reducible rfl
    try simp only [List.getElem_toArray, List.getElem_cons_succ, List.getElem_cons_zero, Act.put, List.setIfInBounds_toArray, List.set_cons_zero, List.set_cons_succ]
    refine wpAnyH_take (i := 3) (v := ?_) rfl (by kernel_rfl) (by kernel_rfl) (by kernel_rfl) (fun _ _ _ h => h) (Or.inl ⟨by rfl, ?_⟩) (by assumption) ?_
    rotate_left
    ·
     intro w hSw
     try dsimp only at hSw
     go_simp
     with_reducible rfl
    try simp only [List.getElem_toArray, List.getElem_cons_succ, List.getElem_cons_zero, Act.put, List.setIfInBounds_toArray, List.set_cons_zero, List.set_cons_succ]
    refine wpAnyH_take (i := 4) (v := ?_) rfl (by kernel_rfl) (by kernel_rfl) (by kernel_rfl) (fun _ _ _ h => h) (Or.inl ⟨by rfl, ?_⟩) (by assumption) ?_
    rotate_left
    ·
     intro w hSw
     try dsimp only at hSw
     go_simp
     with_reducible rfl
    try simp only [List.getElem_toArray, List.getElem_cons_succ, List.getElem_cons_zero, Act.put, List.setIfInBounds_toArray, List.set_cons_zero, List.set_cons_succ]
    refine wpAnyH_ready (rs := [2]) (by kernel_rfl) (by simp) ?_;refine AllReadyH.cons rfl (fun K hK => ?_) AllReadyH.nil;simp only [List.getElem_toArray, List.getElem_cons_succ, List.getElem_cons_zero]
    go_simp
    go_at_call 89
    refine (HI.out _ (HR1.out.below (Below.refl _ _).drew)).mono ?_;rintro e wa ⟨va, rfl, howna, hba⟩;dsimp only;refine hK.out _ _ (HSX.out _ (zA (Below.refl _ _).drew hba)) (fun hHeld => ?_);clear hK
    try simp only [List.getElem_toArray, List.getElem_cons_succ, List.getElem_cons_zero, Act.put, List.setIfInBounds_toArray, List.set_cons_zero, List.set_cons_succ]
    refine wpAnyH_ready (rs := [5]) (by kernel_rfl) (by simp) ?_;refine AllReadyH.cons rfl (fun K hK => ?_) AllReadyH.nil;simp only [List.getElem_toArray, List.getElem_cons_succ, List.getElem_cons_zero]
    go_simp
    go_at_call 88
    refine (HFu.out _ _ w1.heap.size howna hba.size).mono ?_;rintro e wb ⟨rfl, hbb⟩;dsimp only;refine hK.out _ _ (HSX.out _ ((zA (Below.refl _ _).drew hba).trans hbb)) (fun hHeld => ?_);clear hK
    try simp only [List.getElem_toArray, List.getElem_cons_succ, List.getElem_cons_zero, Act.put, List.setIfInBounds_toArray, List.set_cons_zero, List.set_cons_succ]
    refine wpAnyH_take (i := 6) (v := ?_) rfl (by kernel_rfl) (by kernel_rfl) (by kernel_rfl) (fun _ _ _ h => h) (Or.inl ⟨by rfl, ?_⟩) (by assumption) ?_
    rotate_left
    ·
     intro w hSw
     try dsimp only at hSw
     go_simp
     with_reducible rfl
    try simp only [List.getElem_toArray, List.getElem_cons_succ, List.getElem_cons_zero, Act.put, List.setIfInBounds_toArray, List.set_cons_zero, List.set_cons_succ]
    refine wpAnyH_take (i := 7) (v := undef) rfl (by kernel_rfl) (by kernel_rfl) (by kernel_rfl) (fun _ _ _ h => h) (Or.inr ⟨by rfl, rfl⟩) (by assumption) ?_
    try simp only [List.getElem_toArray, List.getElem_cons_succ, List.getElem_cons_zero, Act.put, List.setIfInBounds_toArray, List.set_cons_zero, List.set_cons_succ]
    refine wpAnyH_take (i := 8) (v := undef) rfl (by kernel_rfl) (by kernel_rfl) (by kernel_rfl) (fun _ _ _ h => h) (Or.inr ⟨by rfl, rfl⟩) (by assumption) ?_
    try simp only [List.getElem_toArray, List.getElem_cons_succ, List.getElem_cons_zero, Act.put, List.setIfInBounds_toArray, List.set_cons_zero, List.set_cons_succ]
    refine wpAnyH_take (i := 9) (v := undef) rfl (by kernel_rfl) (by kernel_rfl) (by kernel_rfl) (fun _ _ _ h => h) (Or.inr ⟨by rfl, rfl⟩) (by assumption) ?_
    try simp only [List.getElem_toArray, List.getElem_cons_succ, List.getElem_cons_zero, Act.put, List.setIfInBounds_toArray, List.set_cons_zero, List.set_cons_succ]
    refine wpAnyH_take (i := 10) (v := undef) rfl (by kernel_rfl) (by kernel_rfl) (by kernel_rfl) (fun _ _ _ h => h) (Or.inr ⟨by rfl, rfl⟩) (by assumption) ?_
    try simp only [List.getElem_toArray, List.getElem_cons_succ, List.getElem_cons_zero, Act.put, List.setIfInBounds_toArray, List.set_cons_zero, List.set_cons_succ]
    refine wpAnyH_take (i := 11) (v := undef) rfl (by kernel_rfl) (by kernel_rfl) (by kernel_rfl) (fun _ _ _ h => h) (Or.inr ⟨by rfl, rfl⟩) (by assumption) ?_
    try simp only [List.getElem_toArray, List.getElem_cons_succ, List.getElem_cons_zero, Act.put, List.setIfInBounds_toArray, List.set_cons_zero, List.set_cons_succ]
    refine wpAnyH_take (i := 12) (v := undef) rfl (by kernel_rfl) (by kernel_rfl) (by kernel_rfl) (fun _ _ _ h => h) (Or.inr ⟨by rfl, rfl⟩) (by assumption) ?_
    try simp only [List.getElem_toArray, List.getElem_cons_succ, List.getElem_cons_zero, Act.put, List.setIfInBounds_toArray, List.set_cons_zero, List.set_cons_succ]
    refine wpAnyH_take (i := 13) (v := undef) rfl (by kernel_rfl) (by kernel_rfl) (by kernel_rfl) (fun _ _ _ h => h) (Or.inr ⟨by rfl, rfl⟩) (by assumption) ?_
    try simp only [List.getElem_toArray, List.getElem_cons_succ, List.getElem_cons_zero, Act.put, List.setIfInBounds_toArray, List.set_cons_zero, List.set_cons_succ]
    refine wpAnyH_take (i := 14) (v := undef) rfl (by kernel_rfl) (by kernel_rfl) (by kernel_rfl) (fun _ _ _ h => h) (Or.inr ⟨by rfl, rfl⟩) (by assumption) ?_
    try simp only [List.getElem_toArray, List.getElem_cons_succ, List.getElem_cons_zero, Act.put, List.setIfInBounds_toArray, List.set_cons_zero, List.set_cons_succ]
    refine wpAnyH_take (i := 15) (v := undef) rfl (by kernel_rfl) (by kernel_rfl) (by kernel_rfl) (fun _ _ _ h => h) (Or.inr ⟨by rfl, rfl⟩) (by assumption) ?_
    try simp only [List.getElem_toArray, List.getElem_cons_succ, List.getElem_cons_zero, Act.put, List.setIfInBounds_toArray, List.set_cons_zero, List.set_cons_succ]
    refine wpAnyH_take (i := 16) (v := undef) rfl (by kernel_rfl) (by kernel_rfl) (by kernel_rfl) (fun _ _ _ h => h) (Or.inr ⟨by rfl, rfl⟩) (by assumption) ?_
    try simp only [List.getElem_toArray, List.getElem_cons_succ, List.getElem_cons_zero, Act.put, List.setIfInBounds_toArray, List.set_cons_zero, List.set_cons_succ]
    refine wpAnyH_take (i := 17) (v := undef) rfl (by kernel_rfl) (by kernel_rfl) (by kernel_rfl) (fun _ _ _ h => h) (Or.inr ⟨by rfl, rfl⟩) (by assumption) ?_
    try simp only [List.getElem_toArray, List.getElem_cons_succ, List.getElem_cons_zero, Act.put, List.setIfInBounds_toArray, List.set_cons_zero, List.set_cons_succ]
    refine wpAnyH_take (i := 18) (v := ?_) rfl (by kernel_rfl) (by kernel_rfl) (by kernel_rfl) (fun _ _ _ h => h) (Or.inl ⟨by rfl, ?_⟩) (by assumption) ?_
    rotate_left
    ·
     intro w hSw
     try dsimp only at hSw
     go_simp
     with_reducible rfl
    try simp only [List.getElem_toArray, List.getElem_cons_succ, List.getElem_cons_zero, Act.put, List.setIfInBounds_toArray, List.set_cons_zero, List.set_cons_succ]
    refine wpAnyH_take (i := 19) (v := ?_) rfl (by kernel_rfl) (by kernel_rfl) (by kernel_rfl) (fun _ _ _ h => h) (Or.inl ⟨by rfl, ?_⟩) (by assumption) ?_
    rotate_left
    ·
     intro w hSw
     try dsimp only at hSw
     go_simp
     with_reducible rfl
    try simp only [List.getElem_toArray, List.getElem_cons_succ, List.getElem_cons_zero, Act.put, List.setIfInBounds_toArray, List.set_cons_zero, List.set_cons_succ]
    refine wpAnyH_done (by kernel_rfl) ?_ _;have HZ := zh (bup HB1.out (Nat.le_of_lt hlw1) ((zA (Below.refl _ _).drew hba).trans hbb));clear hba hbb howna;go_wp2_with fail;go_ret;exact ⟨zE HF.out.symm, by rw [E0.out]; exact HZ.out⟩
   go_wp2_with fail
   go_region_held3 (fun w' => w'.cell? ⟨b0, 3, none⟩ = some (.int .i64 d) ∧ w'.cell? ⟨b0, 4, none⟩ = some (.slice (s.a 0) (s.n 0) (s.c 0)) ∧ w'.cell? ⟨b0, 5, none⟩ = some (.slice (s.a 1) (s.n 1) (s.c 1)) ∧ w'.cell? ⟨b0, 6, none⟩ = some (.slice (s.a 2) (s.n 2) (s.c 2)) ∧ w'.cell? ⟨b0, 7, none⟩ = some (.slice (s.a 3) (s.n 3) (s.c 3)) ∧ w'.cell? ⟨b0, 8, none⟩ = some (.slice (s.a 4) (s.n 4) (s.c 4)) ∧ w'.cell? ⟨b0, 9, none⟩ = some (.slice (s.a 5) (s.n 5) (s.c 5)) ∧ w'.cell? ⟨b0, 10, none⟩ = some (.slice (s.a 6) (s.n 6) (s.c 6)) ∧ w'.cell? ⟨b0, 11, none⟩ = some (.slice (s.a 7) (s.n 7) (s.c 7)) ∧ w'.cell? ⟨b0, 12, none⟩ = some (.int .i64 (SM : Int)) ∧ w'.cell? ⟨b0, 13, none⟩ = some (.int .i64 G))
   (first | with_reducible exact HSX.out _ ((zA (Below.refl _ _).drew hba).trans hbb) | with_reducible exact HSX.out _ (zA (Below.refl _ _).drew hba) | exact HSX.out _ (Below.refl _ _).drew)
   (first | (go_at_call 89; (with_reducible refine (HI.out _ (HR1.out.below (Below.refl _ _).drew)).mono ?_); rintro e wa ⟨va, rfl, howna, hba⟩) | (go_at_call 88; refine (HFu.out _ _ w1.heap.size howna hba.size).mono ?_; rintro e wb ⟨rfl, hbb⟩))
   rename_i hHeld;clear hHeld;have HZ := zh (bup HB1.out (Nat.le_of_lt hlw1) ((zA (Below.refl _ _).drew hba).trans hbb));clear hba hbb howna;go_wp2_with fail;go_ret;exact ⟨zE (by rw [HF.out, Bool.true_and, IntWalk.i64_in (16 + (SM : Int)) (by omega), IntWalk.i64_in _ (by omega)]), by rw [E0.out]; exact HZ.out⟩
  have hf : res = false := HNo.out fun hv => hB ⟨hv.size.1, hv.size.2.1, hv.size.2.2⟩
  have HF := zh hf;have HB := zh hB;clear hB hf HNo HYes hres h hs HI;generalize yX g.m = vb at *;obtain ⟨a, b, c, d, f, L, G⟩ := g;dsimp only at *
  go_enter Tryz.func49, Tryz.ntmps49
  go_upto_region 1 with fail;obtain ⟨W, hW⟩ : ∃ W, w.alloc (.cells (zX a b c d s L G) 38) = W := ⟨_, rfl⟩
  change Code.wp _ _ _ _ (w.alloc (.cells (zX a b c d s L G) 38));rw [hW] at HBx HB0 ⊢;have hlw := HBx.out.lt;have n0 := HBx.out.n0;have n1 := HBx.out.n1;have n2 := HBx.out.n2;have n3 := HBx.out.n3;have hb := HB.out;clear hW;have hc : d < 16 ∨ (16 ≤ d ∧ 1048576 < d) ∨ (16 ≤ d ∧ d ≤ 1048576 ∧ d % 8 ≠ 0) := by omega
  clear hb;rcases hc with hc | ⟨h1, hc⟩ | ⟨h1, h2, hc⟩
  ·
   go_wp2_with fail;go_ret;exact ⟨zE HF.out.symm, HB0.out⟩
  ·
   go_wp2_with fail;go_ret;exact ⟨zE HF.out.symm, HB0.out⟩
  have hdm : d.tmod 8 = d % 8 := Int.tmod_eq_emod_of_nonneg (by omega);have hdn : (d % 8 != 0) = true := by simp [hc]
  go_wp2_with fail;go_ret;exact ⟨zE HF.out.symm, HB0.out⟩
 have hf : res = false := HNo.out fun hv => hA ⟨hv.num.1, hv.num.2, hv.rev.1, hv.rev.2, hv.mode.1, hv.mode.2⟩
 have HF := zh hf;have HA := zh hA;clear hA hf HNo HYes hres h hs HV HI;obtain ⟨a, b, c, d, f, L, G⟩ := g;dsimp only at *
 go_enter Tryz.func49, Tryz.ntmps49
 go_upto_region 1 with fail;obtain ⟨W, hW⟩ : ∃ W, w.alloc (.cells (zX a b c d s L G) 38) = W := ⟨_, rfl⟩
 change Code.wp _ _ _ _ (w.alloc (.cells (zX a b c d s L G) 38));rw [hW] at HBx HB0 ⊢;have hlw := HBx.out.lt;have n0 := HBx.out.n0;have n1 := HBx.out.n1;have n2 := HBx.out.n2;have ha := HA.out;clear hW;have hc : a < 1 ∨ (1 ≤ a ∧ 8 < a) ∨ (1 ≤ a ∧ a ≤ 8 ∧ b < 0) ∨ (1 ≤ a ∧ a ≤ 8 ∧ 0 ≤ b ∧ 4294967295 < b) ∨ (1 ≤ a ∧ a ≤ 8 ∧ 0 ≤ b ∧ b ≤ 4294967295 ∧ c < 1) ∨ (1 ≤ a ∧ a ≤ 8 ∧ 0 ≤ b ∧ b ≤ 4294967295 ∧ 1 ≤ c ∧ 3 < c) := by omega
 clear ha;rcases hc with hc | ⟨h1, hc⟩ | ⟨h1, h2, hc⟩ | ⟨h1, h2, h3, hc⟩ | ⟨h1, h2, h3, h4, hc⟩ | ⟨h1, h2, h3, h4, h5, hc⟩ <;>
 (go_wp2_with fail; go_ret; exact ⟨zE HF.out.symm, HB0.out⟩)
end Go.Proofs.YtcgfilmmokmdjaaGreat
