/- generation.Valid: the walk. -/
import Derived.Test.YtenkeodfijladaaGreatDoorGD
import Derived.Test.YtenkeodfijladaaGreatDoorGA
import Derived.StillTailTactics
namespace Go.Proofs.YtenkeodfijladaaGreatDoor
open Go.RowKit

set_option maxRecDepth 100000 in
set_option maxHeartbeats 4000000 in
theorem gvalid_any (g : Gn) (s : Sl) (w : World) (h : RdM w s g.m.st) (hs : ∀ i, i < 8 → (g.m.st i).length ≤ 10000) :
    Calls Tryz.prog 25 #[genV g.num g.rev g.mode g.size s g.m.live g.m.garb] w fun e w' => e = .returned (.bool (vldG g)) ∧ Below w.heap.size w w' := by
  have HV := Lib.hid (fun W h => validM_any s g.m W h (fun i hi => Nat.le_trans (hs i hi) (by decide)))
  have HI := Lib.hid (fun W h => itemsM_any s g.m W h hs)
  have HNo := Lib.hid (fun h => vldG_not (g := g) h)
  have HYes := Lib.hid (vldG_iff g)
  have Hr := Lib.hid h
  have HBx := Lib.hid (BoxG.new w g.num g.rev g.mode g.size s g.m.live g.m.garb 43)
  have HB0 := Lib.hid (below_gen w g.num g.rev g.mode g.size s g.m.live g.m.garb 43)
  generalize hres : vldG g = res at *
  by_cases hA : 1 ≤ g.num ∧ g.num ≤ 8 ∧ 0 ≤ g.rev ∧ g.rev ≤ 4294967295 ∧ 1 ≤ g.mode ∧ g.mode ≤ 3
  · obtain ⟨hA1, hA2, hA3, hA4, hA5, hA6⟩ := hA
    by_cases hB : 16 ≤ g.size ∧ g.size ≤ 1048576 ∧ g.size % 8 = 0
    · have hIl : (itemsM g.m).length ≤ 1000000 := Nat.le_trans (itemsM_len hs) (by decide)
      have hm : vldM g.m = true → (∀ x ∈ itemsM g.m, okP x) ∧ g.m.live = (sumI (allM g.m) : Int) ∧ sumI (allM g.m) ≤ 330160000 ∧ 0 ≤ g.m.garb ∧ g.m.garb ≤ 1099511627776 := fun hv => by
        have hV := (vldM_iff g.m).1 hv
        refine ⟨itemsM_ok hV, hV.lv, ?_, hV.g0, hV.g1⟩
        have h1 := sumI_le (allM g.m)
        have h2 := allM_len hs
        have : (allM g.m).length * 4127 ≤ 80000 * 4127 := Nat.mul_le_mul_right _ h2
        omega
      have hend : vldM g.m = true → res = (endsB (itemsM g.m) g.size && (g.size == 16 + g.m.live + g.m.garb)) := fun hv => by
        rw [Bool.eq_iff_iff, ← hres, vldG_iff, Bool.and_eq_true, beq_iff_eq]
        exact ⟨fun h => ⟨h.ends, h.sum⟩, fun h => ⟨⟨hA1, hA2⟩, ⟨hA3, hA4⟩, ⟨hA5, hA6⟩, hB, hv, h.1, h.2⟩⟩
      have hno : vldM g.m = false → res = false := fun hv => HNo.out fun h => by rw [h.m] at hv; cases hv
      have HM := Lib.hid hm
      have HE := Lib.hid hend
      have HN := Lib.hid hno
      clear hm hend hno HNo HYes hres h hs
      have HFt := Lib.hid (fun v W' N (h : OwnT W' N v (itemsM g.m)) (h2 : N ≤ W'.heap.size) hok => fits_own v (itemsM g.m) g.size W' N h2 h hok hIl hB.1)
      have hd1 := hB.1
      have hd2 := hB.2.1
      have hd3 := hB.2.2
      clear hB hIl
      generalize vldM g.m = vb at *
      generalize itemsM g.m = I at *
      generalize sumI (allM g.m) = SM at *
      generalize hen : endsB I g.size = eb at *
      clear hen
      obtain ⟨a, b, c, d, f, L, G⟩ := g
      dsimp only at *
      have hdm : d.tmod 8 = 0 := by rw [Int.tmod_eq_emod_of_nonneg (by omega)]; exact hd3
      go_enter Tryz.func25, Tryz.ntmps25
      go_upto_region 1 with fail
      obtain ⟨W, hW⟩ : ∃ W, w.alloc (.cells (genC a b c d s L G) 43) = W := ⟨_, rfl⟩
      change Code.wp _ _ _ _ (w.alloc (.cells (genC a b c d s L G) 43))
      rw [hW] at HBx HB0 ⊢
      have hlw := HBx.out.lt
      have n0 := HBx.out.n0
      have n1 := HBx.out.n1
      have n2 := HBx.out.n2
      have n3 := HBx.out.n3
      have c0 := HBx.out.c0
      have c1 := HBx.out.c1
      have c2 := HBx.out.c2
      have c3 := HBx.out.c3
      have c4 := HBx.out.c4
      have c5 := HBx.out.c5
      have c6 := HBx.out.c6
      have c7 := HBx.out.c7
      have c8 := HBx.out.cl
      have c9 := HBx.out.cg
      clear hW
      go_wp2_with fail
      refine (HV.out _ (Hr.out.below HB0.out)).mono ?_; rintro e w1 ⟨rfl, hb1⟩
      have HB1 := Lib.hid (bstep HB0.out hb1)
      have HX1 := Lib.hid (HBx.out.below hb1)
      have HR1 := Lib.hid (Hr.out.below HB1.out)
      clear hb1 HV HBx HB0 n0 n1 n2 n3 c0 c1 c2 c3 c4 c5 c6 c7 c8 c9
      cases vb
      · have HF := Lib.hid (HN.out rfl)
        go_wp2_with fail
        go_ret
        exact ⟨ret_bool HF.out.symm, HB1.out⟩
      · obtain ⟨hok, rfl, hL, hG1, hG2⟩ := HM.out rfl
        have HF := Lib.hid (HE.out rfl)
        have HFu := Lib.hid (fun v W' N h h2 => HFt.out v W' N h h2 hok)
        clear HFt HE HN HM hok
        have hlw1 := HX1.out.lt
        generalize hb0 : w.heap.size = b0 at *
        have E0 := Lib.hid hb0
        clear hb0
        have HSX := Lib.hid (show ∀ WV, Below w1.heap.size w1 WV → WV.cell? ⟨b0, 3, none⟩ = some (.int .i64 d) ∧ WV.cell? ⟨b0, 4, none⟩ = some (.slice (s.a 0) (s.n 0) (s.c 0)) ∧ WV.cell? ⟨b0, 5, none⟩ = some (.slice (s.a 1) (s.n 1) (s.c 1)) ∧ WV.cell? ⟨b0, 6, none⟩ = some (.slice (s.a 2) (s.n 2) (s.c 2)) ∧ WV.cell? ⟨b0, 7, none⟩ = some (.slice (s.a 3) (s.n 3) (s.c 3)) ∧ WV.cell? ⟨b0, 8, none⟩ = some (.slice (s.a 4) (s.n 4) (s.c 4)) ∧ WV.cell? ⟨b0, 9, none⟩ = some (.slice (s.a 5) (s.n 5) (s.c 5)) ∧ WV.cell? ⟨b0, 10, none⟩ = some (.slice (s.a 6) (s.n 6) (s.c 6)) ∧ WV.cell? ⟨b0, 11, none⟩ = some (.slice (s.a 7) (s.n 7) (s.c 7)) ∧ WV.cell? ⟨b0, 12, none⟩ = some (.int .i64 (SM : Int)) ∧ WV.cell? ⟨b0, 13, none⟩ = some (.int .i64 G) from fun WV hb => have h := HX1.out.below hb; ⟨h.n3, h.c0, h.c1, h.c2, h.c3, h.c4, h.c5, h.c6, h.c7, h.cl, h.cg⟩)
        cases eb
        · go_wp2_with fail
          refine wp_region_held_drew (S := fun w' => w'.cell? ⟨b0, 3, none⟩ = some (.int .i64 d) ∧ w'.cell? ⟨b0, 4, none⟩ = some (.slice (s.a 0) (s.n 0) (s.c 0)) ∧ w'.cell? ⟨b0, 5, none⟩ = some (.slice (s.a 1) (s.n 1) (s.c 1)) ∧ w'.cell? ⟨b0, 6, none⟩ = some (.slice (s.a 2) (s.n 2) (s.c 2)) ∧ w'.cell? ⟨b0, 7, none⟩ = some (.slice (s.a 3) (s.n 3) (s.c 3)) ∧ w'.cell? ⟨b0, 8, none⟩ = some (.slice (s.a 4) (s.n 4) (s.c 4)) ∧ w'.cell? ⟨b0, 9, none⟩ = some (.slice (s.a 5) (s.n 5) (s.c 5)) ∧ w'.cell? ⟨b0, 10, none⟩ = some (.slice (s.a 6) (s.n 6) (s.c 6)) ∧ w'.cell? ⟨b0, 11, none⟩ = some (.slice (s.a 7) (s.n 7) (s.c 7)) ∧ w'.cell? ⟨b0, 12, none⟩ = some (.int .i64 (SM : Int)) ∧ w'.cell? ⟨b0, 13, none⟩ = some (.int .i64 G)) (by kernel_rfl) (HSX.out _ (Below.refl _ _).drew) ?_
          intro hS0
          refine wpAnyH_take (i := 0) (v := ?_) rfl (by kernel_rfl) (by kernel_rfl) (by kernel_rfl) (fun _ _ _ h => h) (Or.inl ⟨by rfl, ?_⟩) (by assumption) ?_
          rotate_left
          · intro w hSw
            try dsimp only at hSw
            go_simp
            with_reducible rfl
          try simp only [List.getElem_toArray, List.getElem_cons_zero, Act.put, List.setIfInBounds_toArray, List.set_cons_zero, List.set_cons_succ]
          refine wpAnyH_take (i := 1) (v := ?_) rfl (by kernel_rfl) (by kernel_rfl) (by kernel_rfl) (fun _ _ _ h => h) (Or.inl ⟨by rfl, ?_⟩) (by assumption) ?_
          rotate_left
          · intro w hSw
            try dsimp only at hSw
            go_simp
            with_reducible rfl
          try simp only [List.getElem_toArray, List.getElem_cons_succ, List.getElem_cons_zero, Act.put, List.setIfInBounds_toArray, List.set_cons_zero, List.set_cons_succ]
          refine wpAnyH_take (i := 3) (v := ?_) rfl (by kernel_rfl) (by kernel_rfl) (by kernel_rfl) (fun _ _ _ h => h) (Or.inl ⟨by rfl, ?_⟩) (by assumption) ?_
          rotate_left
          · intro w hSw
            try dsimp only at hSw
            go_simp
            with_reducible rfl
          try simp only [List.getElem_toArray, List.getElem_cons_succ, List.getElem_cons_zero, Act.put, List.setIfInBounds_toArray, List.set_cons_zero, List.set_cons_succ]
          refine wpAnyH_take (i := 4) (v := ?_) rfl (by kernel_rfl) (by kernel_rfl) (by kernel_rfl) (fun _ _ _ h => h) (Or.inl ⟨by rfl, ?_⟩) (by assumption) ?_
          rotate_left
          · intro w hSw
            try dsimp only at hSw
            go_simp
            with_reducible rfl
          try simp only [List.getElem_toArray, List.getElem_cons_succ, List.getElem_cons_zero, Act.put, List.setIfInBounds_toArray, List.set_cons_zero, List.set_cons_succ]
          refine wpAnyH_ready (rs := [2]) (by kernel_rfl) (by simp) ?_
          refine AllReadyH.cons rfl (fun K hK => ?_) AllReadyH.nil
          simp only [List.getElem_toArray, List.getElem_cons_succ, List.getElem_cons_zero]
          go_simp
          go_at_call 53
          refine (HI.out _ (HR1.out.below (Below.refl _ _).drew)).mono ?_
          rintro e wa ⟨va, rfl, howna, hba⟩
          dsimp only
          refine hK.out _ _ (HSX.out _ (bstep (Below.refl _ _).drew hba)) (fun hHeld => ?_)
          clear hK
          try simp only [List.getElem_toArray, List.getElem_cons_succ, List.getElem_cons_zero, Act.put, List.setIfInBounds_toArray, List.set_cons_zero, List.set_cons_succ]
          refine wpAnyH_ready (rs := [5]) (by kernel_rfl) (by simp) ?_
          refine AllReadyH.cons rfl (fun K hK => ?_) AllReadyH.nil
          simp only [List.getElem_toArray, List.getElem_cons_succ, List.getElem_cons_zero]
          go_simp
          go_at_call 52
          refine (HFu.out _ _ w1.heap.size howna hba.size).mono ?_
          rintro e wb ⟨rfl, hbb⟩
          dsimp only
          refine hK.out _ _ (HSX.out _ ((bstep (Below.refl _ _).drew hba).trans hbb)) (fun hHeld => ?_)
          clear hK
          try simp only [List.getElem_toArray, List.getElem_cons_succ, List.getElem_cons_zero, Act.put, List.setIfInBounds_toArray, List.set_cons_zero, List.set_cons_succ]
          refine wpAnyH_take (i := 6) (v := ?_) rfl (by kernel_rfl) (by kernel_rfl) (by kernel_rfl) (fun _ _ _ h => h) (Or.inl ⟨by rfl, ?_⟩) (by assumption) ?_
          rotate_left
          · intro w hSw
            try dsimp only at hSw
            go_simp
            with_reducible rfl
          try simp only [List.getElem_toArray, List.getElem_cons_succ, List.getElem_cons_zero, Act.put, List.setIfInBounds_toArray, List.set_cons_zero, List.set_cons_succ]
          refine wpAnyH_take (i := 7) (v := undef) rfl (by kernel_rfl) (by kernel_rfl) (by kernel_rfl) (fun _ _ _ h => h) (Or.inr ⟨by rfl, rfl⟩) (by assumption) ?_
          try simp only [List.getElem_toArray, List.getElem_cons_succ, List.getElem_cons_zero, Act.put, List.setIfInBounds_toArray, List.set_cons_zero, List.set_cons_succ]
          refine wpAnyH_take (i := 8) (v := undef) rfl (by kernel_rfl) (by kernel_rfl) (by kernel_rfl) (fun _ _ _ h => h) (Or.inr ⟨by rfl, rfl⟩) (by assumption) ?_
          try simp only [List.getElem_toArray, List.getElem_cons_succ, List.getElem_cons_zero, Act.put, List.setIfInBounds_toArray, List.set_cons_zero, List.set_cons_succ]
          refine wpAnyH_take (i := 9) (v := undef) rfl (by kernel_rfl) (by kernel_rfl) (by kernel_rfl) (fun _ _ _ h => h) (Or.inr ⟨by rfl, rfl⟩) (by assumption) ?_
          try simp only [List.getElem_toArray, List.getElem_cons_succ, List.getElem_cons_zero, Act.put, List.setIfInBounds_toArray, List.set_cons_zero, List.set_cons_succ]
          refine wpAnyH_take (i := 10) (v := undef) rfl (by kernel_rfl) (by kernel_rfl) (by kernel_rfl) (fun _ _ _ h => h) (Or.inr ⟨by rfl, rfl⟩) (by assumption) ?_
          try simp only [List.getElem_toArray, List.getElem_cons_succ, List.getElem_cons_zero, Act.put, List.setIfInBounds_toArray, List.set_cons_zero, List.set_cons_succ]
          refine wpAnyH_take (i := 11) (v := undef) rfl (by kernel_rfl) (by kernel_rfl) (by kernel_rfl) (fun _ _ _ h => h) (Or.inr ⟨by rfl, rfl⟩) (by assumption) ?_
          try simp only [List.getElem_toArray, List.getElem_cons_succ, List.getElem_cons_zero, Act.put, List.setIfInBounds_toArray, List.set_cons_zero, List.set_cons_succ]
          refine wpAnyH_take (i := 12) (v := undef) rfl (by kernel_rfl) (by kernel_rfl) (by kernel_rfl) (fun _ _ _ h => h) (Or.inr ⟨by rfl, rfl⟩) (by assumption) ?_
          try simp only [List.getElem_toArray, List.getElem_cons_succ, List.getElem_cons_zero, Act.put, List.setIfInBounds_toArray, List.set_cons_zero, List.set_cons_succ]
          refine wpAnyH_take (i := 13) (v := undef) rfl (by kernel_rfl) (by kernel_rfl) (by kernel_rfl) (fun _ _ _ h => h) (Or.inr ⟨by rfl, rfl⟩) (by assumption) ?_
          try simp only [List.getElem_toArray, List.getElem_cons_succ, List.getElem_cons_zero, Act.put, List.setIfInBounds_toArray, List.set_cons_zero, List.set_cons_succ]
          refine wpAnyH_take (i := 14) (v := undef) rfl (by kernel_rfl) (by kernel_rfl) (by kernel_rfl) (fun _ _ _ h => h) (Or.inr ⟨by rfl, rfl⟩) (by assumption) ?_
          try simp only [List.getElem_toArray, List.getElem_cons_succ, List.getElem_cons_zero, Act.put, List.setIfInBounds_toArray, List.set_cons_zero, List.set_cons_succ]
          refine wpAnyH_take (i := 15) (v := undef) rfl (by kernel_rfl) (by kernel_rfl) (by kernel_rfl) (fun _ _ _ h => h) (Or.inr ⟨by rfl, rfl⟩) (by assumption) ?_
          try simp only [List.getElem_toArray, List.getElem_cons_succ, List.getElem_cons_zero, Act.put, List.setIfInBounds_toArray, List.set_cons_zero, List.set_cons_succ]
          refine wpAnyH_take (i := 16) (v := undef) rfl (by kernel_rfl) (by kernel_rfl) (by kernel_rfl) (fun _ _ _ h => h) (Or.inr ⟨by rfl, rfl⟩) (by assumption) ?_
          try simp only [List.getElem_toArray, List.getElem_cons_succ, List.getElem_cons_zero, Act.put, List.setIfInBounds_toArray, List.set_cons_zero, List.set_cons_succ]
          refine wpAnyH_take (i := 17) (v := undef) rfl (by kernel_rfl) (by kernel_rfl) (by kernel_rfl) (fun _ _ _ h => h) (Or.inr ⟨by rfl, rfl⟩) (by assumption) ?_
          try simp only [List.getElem_toArray, List.getElem_cons_succ, List.getElem_cons_zero, Act.put, List.setIfInBounds_toArray, List.set_cons_zero, List.set_cons_succ]
          refine wpAnyH_take (i := 18) (v := ?_) rfl (by kernel_rfl) (by kernel_rfl) (by kernel_rfl) (fun _ _ _ h => h) (Or.inl ⟨by rfl, ?_⟩) (by assumption) ?_
          rotate_left
          · intro w hSw
            try dsimp only at hSw
            go_simp
            with_reducible rfl
          try simp only [List.getElem_toArray, List.getElem_cons_succ, List.getElem_cons_zero, Act.put, List.setIfInBounds_toArray, List.set_cons_zero, List.set_cons_succ]
          refine wpAnyH_take (i := 19) (v := ?_) rfl (by kernel_rfl) (by kernel_rfl) (by kernel_rfl) (fun _ _ _ h => h) (Or.inl ⟨by rfl, ?_⟩) (by assumption) ?_
          rotate_left
          · intro w hSw
            try dsimp only at hSw
            go_simp
            with_reducible rfl
          try simp only [List.getElem_toArray, List.getElem_cons_succ, List.getElem_cons_zero, Act.put, List.setIfInBounds_toArray, List.set_cons_zero, List.set_cons_succ]
          refine wpAnyH_done (by kernel_rfl) ?_ _
          have HZ := Lib.hid (bup HB1.out (Nat.le_of_lt hlw1) ((bstep (Below.refl _ _).drew hba).trans hbb))
          clear hba hbb howna
          go_wp2_with fail
          go_ret
          exact ⟨ret_bool HF.out.symm, by rw [E0.out]; exact HZ.out⟩
        · go_wp2_with fail
          go_region_held3 (fun w' => w'.cell? ⟨b0, 3, none⟩ = some (.int .i64 d) ∧ w'.cell? ⟨b0, 4, none⟩ = some (.slice (s.a 0) (s.n 0) (s.c 0)) ∧ w'.cell? ⟨b0, 5, none⟩ = some (.slice (s.a 1) (s.n 1) (s.c 1)) ∧ w'.cell? ⟨b0, 6, none⟩ = some (.slice (s.a 2) (s.n 2) (s.c 2)) ∧ w'.cell? ⟨b0, 7, none⟩ = some (.slice (s.a 3) (s.n 3) (s.c 3)) ∧ w'.cell? ⟨b0, 8, none⟩ = some (.slice (s.a 4) (s.n 4) (s.c 4)) ∧ w'.cell? ⟨b0, 9, none⟩ = some (.slice (s.a 5) (s.n 5) (s.c 5)) ∧ w'.cell? ⟨b0, 10, none⟩ = some (.slice (s.a 6) (s.n 6) (s.c 6)) ∧ w'.cell? ⟨b0, 11, none⟩ = some (.slice (s.a 7) (s.n 7) (s.c 7)) ∧ w'.cell? ⟨b0, 12, none⟩ = some (.int .i64 (SM : Int)) ∧ w'.cell? ⟨b0, 13, none⟩ = some (.int .i64 G))
          (first | with_reducible exact HSX.out _ ((bstep (Below.refl _ _).drew hba).trans hbb) | with_reducible exact HSX.out _ (bstep (Below.refl _ _).drew hba) | exact HSX.out _ (Below.refl _ _).drew)
          (first | (go_at_call 53; (with_reducible refine (HI.out _ (HR1.out.below (Below.refl _ _).drew)).mono ?_); rintro e wa ⟨va, rfl, howna, hba⟩) | (go_at_call 52; refine (HFu.out _ _ w1.heap.size howna hba.size).mono ?_; rintro e wb ⟨rfl, hbb⟩))
          rename_i hHeld
          clear hHeld
          have HZ := Lib.hid (bup HB1.out (Nat.le_of_lt hlw1) ((bstep (Below.refl _ _).drew hba).trans hbb))
          clear hba hbb howna
          go_wp2_with fail
          go_ret
          exact ⟨ret_bool (by rw [HF.out, Bool.true_and, IntWalk.i64_in (16 + (SM : Int)) (by omega), IntWalk.i64_in _ (by omega)]), by rw [E0.out]; exact HZ.out⟩
    · have hf : res = false := HNo.out fun hv => hB ⟨hv.size.1, hv.size.2.1, hv.size.2.2⟩
      have HF := Lib.hid hf
      have HB := Lib.hid hB
      clear hB hf HNo HYes hres h hs HI
      generalize vldM g.m = vb at *
      obtain ⟨a, b, c, d, f, L, G⟩ := g
      dsimp only at *
      go_enter Tryz.func25, Tryz.ntmps25
      go_upto_region 1 with fail
      obtain ⟨W, hW⟩ : ∃ W, w.alloc (.cells (genC a b c d s L G) 43) = W := ⟨_, rfl⟩
      change Code.wp _ _ _ _ (w.alloc (.cells (genC a b c d s L G) 43))
      rw [hW] at HBx HB0 ⊢
      have hlw := HBx.out.lt
      have n0 := HBx.out.n0
      have n1 := HBx.out.n1
      have n2 := HBx.out.n2
      have n3 := HBx.out.n3
      have hb := HB.out
      clear hW
      have hc : d < 16 ∨ (16 ≤ d ∧ 1048576 < d) ∨ (16 ≤ d ∧ d ≤ 1048576 ∧ d % 8 ≠ 0) := by omega
      clear hb
      rcases hc with hc | ⟨h1, hc⟩ | ⟨h1, h2, hc⟩
      · go_wp2_with fail
        go_ret
        exact ⟨ret_bool HF.out.symm, HB0.out⟩
      · go_wp2_with fail
        go_ret
        exact ⟨ret_bool HF.out.symm, HB0.out⟩
      · have hdm : d.tmod 8 = d % 8 := Int.tmod_eq_emod_of_nonneg (by omega)
        have hdn : (d % 8 != 0) = true := by simp [hc]
        go_wp2_with fail
        go_ret
        exact ⟨ret_bool HF.out.symm, HB0.out⟩
  · have hf : res = false := HNo.out fun hv => hA ⟨hv.num.1, hv.num.2, hv.rev.1, hv.rev.2, hv.mode.1, hv.mode.2⟩
    have HF := Lib.hid hf
    have HA := Lib.hid hA
    clear hA hf HNo HYes hres h hs HV HI
    obtain ⟨a, b, c, d, f, L, G⟩ := g
    dsimp only at *
    go_enter Tryz.func25, Tryz.ntmps25
    go_upto_region 1 with fail
    obtain ⟨W, hW⟩ : ∃ W, w.alloc (.cells (genC a b c d s L G) 43) = W := ⟨_, rfl⟩
    change Code.wp _ _ _ _ (w.alloc (.cells (genC a b c d s L G) 43))
    rw [hW] at HBx HB0 ⊢
    have hlw := HBx.out.lt
    have n0 := HBx.out.n0
    have n1 := HBx.out.n1
    have n2 := HBx.out.n2
    have ha := HA.out
    clear hW
    have hc : a < 1 ∨ (1 ≤ a ∧ 8 < a) ∨ (1 ≤ a ∧ a ≤ 8 ∧ b < 0) ∨ (1 ≤ a ∧ a ≤ 8 ∧ 0 ≤ b ∧ 4294967295 < b) ∨ (1 ≤ a ∧ a ≤ 8 ∧ 0 ≤ b ∧ b ≤ 4294967295 ∧ c < 1) ∨ (1 ≤ a ∧ a ≤ 8 ∧ 0 ≤ b ∧ b ≤ 4294967295 ∧ 1 ≤ c ∧ 3 < c) := by omega
    clear ha
    rcases hc with hc | ⟨h1, hc⟩ | ⟨h1, h2, hc⟩ | ⟨h1, h2, h3, hc⟩ | ⟨h1, h2, h3, h4, hc⟩ | ⟨h1, h2, h3, h4, h5, hc⟩ <;>
    · go_wp2_with fail
      go_ret
      exact ⟨ret_bool HF.out.symm, HB0.out⟩
end Go.Proofs.YtenkeodfijladaaGreatDoor
