/- The walks over index.Valid and its reference. -/
import Derived.Test.YtenkeodfijladaaGreatDoorIt
namespace Go.Proofs.YtenkeodfijladaaGreatDoor
open Go.RowKit

set_option maxHeartbeats 400000 in
theorem idx_any (v : Value) (l : List It) (w : World) (h : RdT w v l) :
    Calls Tryz.prog 121 #[v, .func (.func 93) #[] #[]] w fun e w' => (∃ k : Int, e = .returned (.int .i64 k) ∧ decide (0 ≤ k) = !l.all okB) ∧ Below w.heap.size w w' := by
  obtain ⟨a, cap, rfl, h1, h2⟩ := h.shape
  have HT := Lib.hid (show (∀ j, j < l.length → _) → _ from all_true (l := l) (p := okB))
  have HF := Lib.hid (show ∀ j, j < l.length → _ → _ from fun j => all_false (l := l) (p := okB) (j := j))
  have hm := lt63 h1 h2
  generalize hn : l.length = n at *
  have Hr := Lib.hid h
  clear h h1 h2 hn
  go_enter Tryz.func121, Tryz.ntmps121
  go_wp2_with fail
  go_loopw [8] (fun i wr => ∃ k : Nat, k ≤ n ∧ i = .int .i64 (k : Int) ∧ (∀ j, j < k → okB (iat l j) = true) ∧ Below w.heap.size w wr) (fun i _ => n - (intOf i).toNat)
  case atStart => exact ⟨0, Nat.zero_le _, rfl, fun j hj => absurd hj (by omega), Below.refl _ _⟩
  case round =>
    obtain ⟨k, hk, rfl, hok, hb⟩ := hrel
    have Hok := Lib.hid hok
    have Hb := Lib.hid hb
    have hB := hb.size
    clear hok hb
    by_cases hlt : k < n
    · have hr := Hr.out.below Hb.out
      obtain ⟨b, off, rfl, c0, c1, c2, c3⟩ := hr.at hlt
      have HV := Lib.hid fun w => notvalid_any (iat l k).key (iat l k).ck (iat l k).off (iat l k).size w
      generalize hx : iat l k = x at *
      have EX := Lib.hid hx
      clear hx
      clear hr
      go_wp2_with fail
      refine (HV.out _).mono ?_; rintro e w1 ⟨rfl, hb1⟩
      have Hb1 := Lib.hid (bstep Hb.out hb1)
      cases hx : okB x
      · have HX := Lib.hid hx
        clear hb1 hx
        go_wp2_with fail
        go_ret
        refine ⟨⟨k, rfl, ?_⟩, Hb1.out⟩
        rw [HF.out k hlt (by rw [EX.out]; exact HX.out)]; simp
      · have HX := Lib.hid hx
        clear hb1 hx
        go_wp2_with fail
        refine ⟨⟨k + 1, by omega, by go_num, fun j hj => ?_, Hb1.out⟩, by simp [intOf]; omega⟩
        by_cases e : j = k
        · rw [e, EX.out]; exact HX.out
        · exact Hok.out j (by omega)
    · obtain rfl : k = n := by omega
      go_wp2_with fail
      go_ret
      refine ⟨⟨-1, rfl, ?_⟩, Hb.out⟩
      rw [HT.out Hok.out]; rfl
theorem cont_any (v : Value) (l : List It) (w : World) (h : RdT w v l) :
    Calls Tryz.prog 92 #[v, .func (.func 93) #[] #[]] w fun e w' => e = .returned (.bool (!l.all okB)) ∧ Below w.heap.size w w' := by
  have HA := Lib.hid (idx_any v l w h)
  obtain ⟨a, cap, rfl, h1, h2⟩ := h.shape
  clear h h1 h2
  go_enter Tryz.func92, Tryz.ntmps92
  go_wp2_with fail
  refine HA.out.mono ?_; rintro e w1 ⟨⟨k, rfl, hk⟩, hb1⟩
  have Hk := Lib.hid hk
  have Hb1 := Lib.hid hb1
  clear hk hb1
  go_wp2_with fail
  go_ret
  exact ⟨ret_bool Hk.out, Hb1.out⟩
set_option maxHeartbeats 400000 in
theorem vld_any (v : Value) (l : List It) (w : World) (h : RdT w v l) :
    Calls Tryz.prog 63 #[v] w fun e w' => e = .returned (.bool (vldB l)) ∧ Below w.heap.size w w' := by
  have HA := Lib.hid (asc_any v l w h)
  have HC := Lib.hid (fun w h => cont_any v l w h)
  have Hr := Lib.hid h
  obtain ⟨a, cap, rfl, h1, h2⟩ := h.shape
  clear h h1 h2
  go_enter Tryz.func63, Tryz.ntmps63
  go_wp2_with fail
  refine HA.out.mono ?_; rintro e w1 ⟨rfl, hb1⟩
  have Hb1 := Lib.hid hb1
  cases hab : ascB l
  · have HF := Lib.hid (vldB_asc hab)
    clear hb1 hab
    go_wp2_with fail
    go_ret
    exact ⟨ret_bool HF.out.symm, Hb1.out⟩
  · have HF := Lib.hid (show vldB l = l.all okB by unfold vldB; rw [hab]; rfl)
    clear hb1 hab
    go_wp2_with fail
    refine (HC.out w1 (Hr.out.below Hb1.out)).mono ?_; rintro e w2 ⟨rfl, hb2⟩
    have Hb2 := Lib.hid (bstep Hb1.out hb2)
    clear hb2
    go_wp2_with fail
    go_ret
    exact ⟨ret_bool (HF.out.symm), Hb2.out⟩
set_option maxHeartbeats 1000000 in
theorem rvld_any (v : Value) (l : List It) (w : World) (h : RdT w v l) :
    Calls Tryz.prog 96 #[v] w fun e w' => e = .returned (.bool (vldB l)) ∧ Below w.heap.size w w' := by
  obtain ⟨a, cap, rfl, h1, h2⟩ := h.shape
  have HT := Lib.hid (show AscTo l l.length → (∀ j, j < l.length → okB (iat l j) = true) → vldB l = true from vldB_true)
  have HF1 := Lib.hid (show ∀ j, j + 1 < l.length → (iat l (j + 1)).key ≤ (iat l j).key → vldB l = false from fun j h1 h2 => vldB_asc (ascB_false h1 h2))
  have HF2 := Lib.hid (show ∀ j, j < l.length → okB (iat l j) = false → vldB l = false from fun j => vldB_no (l := l) (j := j))
  have hm := lt63 h1 h2
  generalize hn : l.length = n at *
  have Hr := Lib.hid h
  clear h h1 h2 hn
  go_enter Tryz.func96, Tryz.ntmps96
  go_wp2_with fail
  go_loopw [3] (fun i wr => ∃ k : Nat, k ≤ n ∧ i = .int .i64 (k : Int) ∧ AscTo l k ∧ (∀ j, j < k → okB (iat l j) = true) ∧ Below w.heap.size w wr) (fun i _ => n - (intOf i).toNat)
  case atStart => exact ⟨0, Nat.zero_le _, rfl, fun j hj => absurd hj (by omega), fun j hj => absurd hj (by omega), Below.refl _ _⟩
  case round =>
    obtain ⟨k, hk, rfl, hasc, hok, hb⟩ := hrel
    have Hasc := Lib.hid hasc
    have Hok := Lib.hid hok
    have Hb := Lib.hid hb
    have hB := hb.size
    clear hasc hok hb
    by_cases hlt : k < n
    · have hr := Hr.out.below Hb.out
      obtain ⟨b, off, rfl, c0, c1, c2, c3⟩ := hr.at hlt
      obtain ⟨r, hr0⟩ : ∃ r, okB (iat l k) = r := ⟨_, rfl⟩
      have HV := Lib.hid fun w => rvalid1_any (iat l k).key (iat l k).ck (iat l k).off (iat l k).size w
      rw [show okB ⟨(iat l k).key, (iat l k).ck, (iat l k).off, (iat l k).size⟩ = r from hr0] at HV
      have HR := Lib.hid hr0
      clear hr0
      have f1 := cell_by c1
      have f2 := cell_by c2
      have f3 := cell_by c3
      have i1 : (k : Int) < (n : Int) := by omega
      have HR2 := Lib.hid (HF2.out k hlt)
      rw [HR.out] at HR2
      cases r
      · have f0 := cell_by c0
        generalize iat l k = x at *
        clear c0 c1 c2 c3 hr
        go_wp2_with fail
        refine wp_region_below (by kernel_rfl) (by kernel_rfl) ?_
        repeat (go_big_quiet_step ((exact calls_by (HV.out _))))
        refine wpQuiet_nil ?_
        intro _ hw'
        obtain ⟨q, hw'⟩ := hw'
        subst hw'
        go_wp2_with fail
        go_ret
        exact ⟨ret_bool (HR2.out (by first | trivial | rfl)).symm, bstep Hb.out q.h⟩
      · have HK := Lib.hid (show ∀ j, j < k + 1 → okB (iat l j) = true from fun j hj => by
          by_cases e : j = k
          · rw [e]; exact HR.out
          · exact Hok.out j (by omega))
        by_cases h0 : k = 0
        · subst h0
          rw [Nat.zero_mul, Nat.add_zero] at c0 f1 f2 f3
          have f0 := cell_by c0
          clear c0 c1 c2 c3 hr
          generalize iat l 0 = x at *
          go_wp2_with fail
          refine wp_region_below (by kernel_rfl) (by kernel_rfl) ?_
          repeat (go_big_quiet_step ((exact calls_by (HV.out _))))
          refine wpQuiet_nil ?_
          intro _ hw'
          obtain ⟨q, hw'⟩ := hw'
          subst hw'
          go_wp2_with fail
          exact ⟨⟨1, by omega, by go_num, fun j hj => absurd hj (by omega), HK.out, bstep Hb.out q.h⟩, by simp [intOf]; omega⟩
        · obtain ⟨j, rfl⟩ : ∃ j, k = j + 1 := ⟨k - 1, by omega⟩
          have hd : decide ((0 : Int) < ((j + 1 : Nat) : Int)) = true := by simp
          have f0 := cell_by c0
          obtain ⟨_, _, e, d0, _⟩ := hr.at (show j < n by omega)
          injection e with e; injection e with e1 e2; subst e1 e2
          have g0 := cell_by d0
          have HK2 := Lib.hid (HF1.out j hlt)
          have HK3 := Lib.hid (show (iat l j).key < (iat l (j + 1)).key → AscTo l (j + 1 + 1) from fun h => Hasc.out.succ fun i e => by
            obtain rfl : j = i := by omega
            exact h)
          clear c0 c1 c2 c3 hr d0
          generalize iat l (j + 1) = x at *
          generalize iat l j = y at *
          have i2 : (j : Int) < (n : Int) := by omega
          have i3 : (j : Int) + 1 < (n : Int) := by omega
          have j1 : IntKind.i64.wrap (j : Int) = (j : Int) := IntWalk.i64_in _ (by omega)
          go_wp2_with fail
          refine wp_region_below (by kernel_rfl) (by kernel_rfl) ?_
          repeat (go_big_quiet_step ((exact calls_by (HV.out _))))
          refine wpQuiet_nil ?_
          intro _ hw'
          obtain ⟨q, hw'⟩ := hw'
          subst hw'
          clear i2 i3 j1
          go_wp2_with fail
          · have hle : x.key ≤ y.key := by assumption
            go_ret
            exact ⟨ret_bool (HK2.out hle).symm, bstep Hb.out q.h⟩
          · have hxy : y.key < x.key := by assumption
            exact ⟨⟨j + 1 + 1, by omega, by go_num, HK3.out hxy, HK.out, bstep Hb.out q.h⟩, by simp [intOf]; omega⟩
    · obtain rfl : k = n := by omega
      go_wp2_with fail
      go_ret
      exact ⟨ret_bool (HT.out Hasc.out Hok.out).symm, Hb.out⟩
end Go.Proofs.YtenkeodfijladaaGreatDoor
