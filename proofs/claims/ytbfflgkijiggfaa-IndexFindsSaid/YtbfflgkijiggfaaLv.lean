/- IndexValid: the walk; what is known of a slice of items that came in. -/
import Derived.Test.YtbfflgkijiggfaaAw
import Derived.Test.YtbfflgkijiggfaaOp
namespace Go.Proofs.Ytbfflgkijiggfaa
open Go.RowKit

set_option maxHeartbeats 400000 in
theorem lvalid_core (v : Value) (l : List It) (w : World) (h : RdT w v l) :
    Calls Try.prog 3 #[v] w fun e w' => e = .returned (.bool true) ∧ Below w.heap.size w w' := by
  have HC := Lib.hid (cut_any v l w h)
  have HV := Lib.hid (fun v w h => vld_any v (l.take 40) w h)
  have HR := Lib.hid (fun v w h => rvld_any v (l.take 40) w h)
  have HM := Lib.hid (fun v w h => made_any v (l.take 40) w h)
  have HMV := Lib.hid (fun v w h => vld_any v (mk (l.take 40)) w h)
  rw [mk_valid] at HMV
  obtain ⟨a, cap, rfl, _, _⟩ := h.shape
  generalize vldB (l.take 40) = r at *
  generalize mk (l.take 40) = m at *
  generalize l.take 40 = l4 at *
  clear h
  go_enter Try.func3, Try.ntmps3
  go_wp2_with fail
  refine HC.out.mono ?_; rintro e w0 ⟨⟨v1, rfl, hr1⟩, rfl⟩
  have Hr := Lib.hid hr1
  clear hr1
  go_wp2_with fail
  refine (HV.out _ _ Hr.out).mono ?_; rintro e w2 ⟨rfl, hb2⟩
  have HB2 := Lib.hid hb2
  clear hb2
  go_wp2_with fail
  refine (HR.out _ _ (Hr.out.below HB2.out)).mono ?_; rintro e w3 ⟨rfl, hb3⟩
  have HB3 := Lib.hid (bstep HB2.out hb3)
  clear hb3
  have hrr : (r == r) = true := by cases r <;> rfl
  go_wp2_with fail
  refine (HM.out _ _ (Hr.out.below HB3.out)).mono ?_; rintro e w4 ⟨v4, rfl, hown4, hb4⟩
  have HR4 := Lib.hid hown4.rd
  have HB4 := Lib.hid (bstep HB3.out hb4)
  clear hown4 hb4
  go_wp2_with fail
  refine (HMV.out _ _ HR4.out).mono ?_; rintro e w5 ⟨rfl, hb5⟩
  have HB5 := Lib.hid (bstep HB4.out hb5)
  clear hb5
  go_wp2_with fail
  refine (awake_any _).mono ?_; rintro e w6 ⟨rfl, hb6⟩
  have HB6 := Lib.hid (bstep HB5.out hb6)
  clear hb6
  go_wp2_with fail
  go_ret
  exact ⟨rfl, HB6.out⟩
theorem valid_walk (a : Option Addr) (n cap : Nat) (w : World) (h : ∃ l, RdT w (.slice a n cap) l ∧ ∀ x ∈ l, x.Wf) :
    Calls Try.prog 3 #[.slice a n cap] w fun e w' => e = .returned (.bool true) ∧ Below w.heap.size w w' := by
  obtain ⟨l, h, _⟩ := h
  exact lvalid_core _ l w h
end Go.Proofs.Ytbfflgkijiggfaa
