/- The walks over index.Valid and its reference. -/
import Derived.Test.YtibddmnfplmonaaIt
namespace Go.Proofs.Ytibddmnfplmonaa
open Go.RowKit

set_option maxHeartbeats 400000 in
theorem idx_any (v : Value) (l : List It) (w : World) (h : RdT w v l) :
    Calls Try.prog 50 #[v, .func (.func 35) #[] #[]] w fun e w' => (∃ k : Int, e = .returned (.int .i64 k) ∧ decide (0 ≤ k) = !l.all okB) ∧ Below w.heap.size w w' := by
  obtain ⟨a, cap, rfl, h1, h2⟩ := h.shape
  have HT := Lib.hid (show (∀ j, j < l.length → _) → _ from all_true (l := l) (p := okB))
  have HF := Lib.hid (show ∀ j, j < l.length → _ → _ from fun j => all_false (l := l) (p := okB) (j := j))
  have hm := lt63 h1 h2
  generalize hn : l.length = n at *
  have Hr := Lib.hid h
  clear h h1 h2 hn
  go_enter Try.func50, Try.ntmps50
  go_wp2_with fail
  go_loopw [8] (fun i wr => ∃ k : Nat, k ≤ n ∧ i = .int .i64 (k : Int) ∧ (∀ j, j < k → okB (iat l j) = true) ∧ Below w.heap.size w wr) (fun i _ => n - (intOf i).toNat)
  case atStart => exact ⟨0, Nat.zero_le _, rfl, fun j hj => absurd hj (by omega), Below.refl _ _⟩
  case round =>
    obtain ⟨k, hk, rfl, hok, hb⟩ := hrel
    have Hok := Lib.hid hok
    have Hb := Lib.hid hb
    have hB := hb.size
    clear hok hb
    by_cases hlt : k < n
    · have hr := Hr.out.below Hb.out
      obtain ⟨b, off, rfl, c0, c1, c2, c3⟩ := hr.at hlt
      have HV := Lib.hid fun w => notvalid_any (iat l k).key (iat l k).ck (iat l k).off (iat l k).size w
      generalize hx : iat l k = x at *
      have EX := Lib.hid hx
      clear hx
      clear hr
      go_wp2_with fail
      refine (HV.out _).mono ?_; rintro e w1 ⟨rfl, hb1⟩
      have Hb1 := Lib.hid (bstep Hb.out hb1)
      cases hx : okB x
      · have HX := Lib.hid hx
        clear hb1 hx
        go_wp2_with fail
        go_ret
        refine ⟨⟨k, rfl, ?_⟩, Hb1.out⟩
        rw [HF.out k hlt (by rw [EX.out]; exact HX.out)]; simp
      · have HX := Lib.hid hx
        clear hb1 hx
        go_wp2_with fail
        refine ⟨⟨k + 1, by omega, by go_num, fun j hj => ?_, Hb1.out⟩, by simp [intOf]; omega⟩
        by_cases e : j = k
        · rw [e, EX.out]; exact HX.out
        · exact Hok.out j (by omega)
    · obtain rfl : k = n := by omega
      go_wp2_with fail
      go_ret
      refine ⟨⟨-1, rfl, ?_⟩, Hb.out⟩
      rw [HT.out Hok.out]; rfl
theorem cont_any (v : Value) (l : List It) (w : World) (h : RdT w v l) :
    Calls Try.prog 34 #[v, .func (.func 35) #[] #[]] w fun e w' => e = .returned (.bool (!l.all okB)) ∧ Below w.heap.size w w' := by
  have HA := Lib.hid (idx_any v l w h)
  obtain ⟨a, cap, rfl, h1, h2⟩ := h.shape
  clear h h1 h2
  go_enter Try.func34, Try.ntmps34
  go_wp2_with fail
  refine HA.out.mono ?_; rintro e w1 ⟨⟨k, rfl, hk⟩, hb1⟩
  have Hk := Lib.hid hk
  have Hb1 := Lib.hid hb1
  clear hk hb1
  go_wp2_with fail
  go_ret
  exact ⟨ret_bool Hk.out, Hb1.out⟩
set_option maxHeartbeats 400000 in
theorem vld_any (v : Value) (l : List It) (w : World) (h : RdT w v l) :
    Calls Try.prog 24 #[v] w fun e w' => e = .returned (.bool (vldB l)) ∧ Below w.heap.size w w' := by
  have HA := Lib.hid (asc_any v l w h)
  have HC := Lib.hid (fun w h => cont_any v l w h)
  have Hr := Lib.hid h
  obtain ⟨a, cap, rfl, h1, h2⟩ := h.shape
  clear h h1 h2
  go_enter Try.func24, Try.ntmps24
  go_wp2_with fail
  refine HA.out.mono ?_; rintro e w1 ⟨rfl, hb1⟩
  have Hb1 := Lib.hid hb1
  cases hab : ascB l
  · have HF := Lib.hid (vldB_asc hab)
    clear hb1 hab
    go_wp2_with fail
    go_ret
    exact ⟨ret_bool HF.out.symm, Hb1.out⟩
  · have HF := Lib.hid (show vldB l = l.all okB by unfold vldB; rw [hab]; rfl)
    clear hb1 hab
    go_wp2_with fail
    refine (HC.out w1 (Hr.out.below Hb1.out)).mono ?_; rintro e w2 ⟨rfl, hb2⟩
    have Hb2 := Lib.hid (bstep Hb1.out hb2)
    clear hb2
    go_wp2_with fail
    go_ret
    exact ⟨ret_bool (HF.out.symm), Hb2.out⟩
end Go.Proofs.Ytibddmnfplmonaa
