/- needlestoreref06.Valid, Encode, Same. -/
import Derived.Test.YtecflhklpkjhcaaSn
import Derived.Test.YtecflhklpkjhcaaOn
namespace Go.Proofs.Ytecflhklpkjhcaa
open Go.RowKit

set_option maxHeartbeats 1000000 in
theorem rnvalid_ok (x : Nd) (a : Option Addr) (cap : Nat) (w : World) (h : x.ok) : Calls Try.prog 46 #[ndV x (.slice a x.data.length cap)] w fun e w' => e = .returned (.bool true) ∧ Below w.heap.size w w' := by
  obtain ⟨k, c, d, l⟩ := x
  obtain ⟨h1, h2⟩ := h
  dsimp only at h1 h2 ⊢
  have HB := Lib.hid (show Below w.heap.size w (w.alloc (.cells #[.int .u64 (k : Int), .int .u32 (c : Int), .bool d, .slice a l.length cap] 31)) from (Below.refl _ _).alloc (Nat.le_refl _) _)
  cases d
  · generalize l.length = n at *
    clear h2
    have d1 : decide ((n : Int) ≤ 4096) = true := by simp; omega
    go_enter Try.func46, Try.ntmps46
    go_wp2_with fail
    go_ret
    exact ⟨rfl, HB.out⟩
  · have h3 : l.length = 0 := by rw [h2 rfl]; rfl
    clear h2
    rw [h3] at HB ⊢
    go_enter Try.func46, Try.ntmps46
    go_wp2_with fail
    go_ret
    exact ⟨rfl, HB.out⟩
theorem nd_eq (x y : Nd) : decide (x = y) = (decide (x.key = y.key) && decide (x.ck = y.ck) && (x.del == y.del) && decide (x.data = y.data)) := by
  obtain ⟨a, b, c, d⟩ := x; obtain ⟨a', b', c', d'⟩ := y
  rw [Bool.eq_iff_iff]; simp [and_assoc]
set_option maxRecDepth 100000 in
set_option maxHeartbeats 4000000 in
theorem rnsame_any (x y : Nd) (u v : Value) (w : World) (hu : RdB w u x.data) (hv : RdB w v y.data) :
    Calls Try.prog 15 #[ndV x u, ndV y v] w fun e w' => e = .returned (.bool (decide (x = y))) ∧ Below w.heap.size w w' := by
  rw [nd_eq]
  obtain ⟨a, cap, rfl, _, _⟩ := hu.shape0
  obtain ⟨a', cap', rfl, _, _⟩ := hv.shape0
  obtain ⟨k, c, d, l⟩ := x
  obtain ⟨k', c', d', l'⟩ := y
  dsimp only at *
  have HB := Lib.hid (show Below w.heap.size w ((w.alloc (.cells #[.int .u64 (k : Int), .int .u32 (c : Int), .bool d, .slice a l.length cap] 31)).alloc (.cells #[.int .u64 (k' : Int), .int .u32 (c' : Int), .bool d', .slice a' l'.length cap'] 31)) from ((Below.refl _ _).alloc (Nat.le_refl _) _).alloc (by simp) _)
  have k1 := run_to_string (P := Try.prog) 23 9 5 Try.underlying23 Try.underlying5 Try.underlying9 (RdL.below hu HB.out)
  have k2 := run_to_string (P := Try.prog) 23 9 5 Try.underlying23 Try.underlying5 Try.underlying9 (RdL.below hv HB.out)
  clear hu hv
  generalize l.length = n at *
  generalize l'.length = n' at *
  by_cases c1 : k = k'
  · have t1 : ((k : Int) == (k' : Int)) = true := beq_iff_eq.2 (by omega)
    by_cases c2 : c = c'
    · have t2 : ((c : Int) == (c' : Int)) = true := beq_iff_eq.2 (by omega)
      by_cases c3 : d = d'
      · have t3 : (d == d') = true := beq_iff_eq.2 c3
        obtain ⟨q, hq⟩ : ∃ q, (l == l') = q := ⟨_, rfl⟩
        have HV := Lib.hid (show (decide (k = k') && decide (c = c') && (d == d') && decide (l = l')) = q by rw [← hq, t3, decide_eq_true c1, decide_eq_true c2, Bool.eq_iff_iff]; simp)
        rw [HV.out]
        clear c1 c2 c3
        go_enter Try.func15, Try.ntmps15
        go_wp2_with fail
        go_ret
        exact ⟨rfl, HB.out⟩
      · have t3 : (d == d') = false := beq_eq_false_iff_ne.2 c3
        have HV := Lib.hid (show (decide (k = k') && decide (c = c') && (d == d') && decide (l = l')) = false by rw [t3]; simp)
        rw [HV.out]
        clear c1 c2 c3
        go_enter Try.func15, Try.ntmps15
        go_wp2_with fail
        go_ret
        exact ⟨rfl, HB.out⟩
    · have t2 : ((c : Int) == (c' : Int)) = false := beq_eq_false_iff_ne.2 (by omega)
      have HV := Lib.hid (show (decide (k = k') && decide (c = c') && (d == d') && decide (l = l')) = false by rw [decide_eq_false c2]; simp)
      rw [HV.out]
      clear c1 c2
      go_enter Try.func15, Try.ntmps15
      go_wp2_with fail
      go_ret
      exact ⟨rfl, HB.out⟩
  · have t1 : ((k : Int) == (k' : Int)) = false := beq_eq_false_iff_ne.2 (by omega)
    have HV := Lib.hid (show (decide (k = k') && decide (c = c') && (d == d') && decide (l = l')) = false by rw [decide_eq_false c1]; simp)
    rw [HV.out]
    clear c1
    go_enter Try.func15, Try.ntmps15
    go_wp2_with fail
    go_ret
    exact ⟨rfl, HB.out⟩
end Go.Proofs.Ytecflhklpkjhcaa
