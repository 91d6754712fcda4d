/- The walks over the small functions of sched and of its reference: ascending, has, Contains, BinarySearch, Pick, Next. -/
import Derived.Test.YtffmdhloplindaaRows
import Derived.Test.YtffmdhloplindaaBase
import Derived.Test.YtffmdhloplindaaPl
import Derived.BigQuiet
import Derived.Deep.QuietTactic
namespace Go.Proofs.Ytffmdhloplindaa
open Go.RowKit

theorem RdI.shape0 {w : World} {v : Value} {l : List Int} (h : RdI w v l) : ∃ a cap, v = .slice a l.length cap ∧ l.length ≤ cap ∧ cap ≤ maxLen ∧ (a = none → cap = 0) ∧
    (0 < l.length → ∃ b off, a = some ⟨b, off, none⟩ ∧ ∀ j, j < l.length → w.cell? ⟨b, off + j, none⟩ = some (.int .i64 (Pl.at0 l j))) := h.shape 0
set_option maxHeartbeats 400000 in
theorem asc_any (v : Value) (l : List Int) (w : World) (h : RdI w v l) (hm : l.length ≤ 9223372036854775807) :
    Calls Try.prog 24 #[v] w fun e w' => e = .returned (.bool (Pl.ascB l)) ∧ w = w' := by
  obtain ⟨a, cap, rfl, h1, h2, h3, h4⟩ := h.shape0
  have HT := Lib.hid (show Pl.AscTo l l.length → Pl.ascB l = true from fun h => (Pl.asc_iff l).2 h)
  have HF := Lib.hid (show ∀ j, j + 1 < l.length → Pl.at0 l (j + 1) ≤ Pl.at0 l j → Pl.ascB l = false from fun j hj hle => Pl.ascB_false hj (by omega))
  generalize hn : l.length = n at *
  have HN := Lib.hid hn
  clear hn h
  go_enter Try.func24, Try.ntmps24
  go_wp2_with fail
  go_loop [7] (fun i => ∃ k : Nat, k ≤ n ∧ i = .int .i64 (k : Int) ∧ Pl.AscTo l k) (fun i => n - (intOf i).toNat)
  case atStart => exact ⟨0, Nat.zero_le _, rfl, fun j hj => absurd hj (by omega)⟩
  case round =>
    obtain ⟨k, hk, rfl, hasc⟩ := hrel
    have Hasc := Lib.hid hasc
    clear hasc
    by_cases hlt : k < n
    · obtain ⟨b, off, rfl, hc⟩ := h4 (by omega)
      have c1 := hc k hlt
      by_cases h0 : k = 0
      · subst h0
        rw [Nat.add_zero] at c1
        clear hc h4
        go_wp2_with fail
        exact ⟨⟨1, by omega, by go_num, fun j hj => absurd hj (by omega)⟩, by simp [intOf]; omega⟩
      · obtain ⟨j, rfl⟩ : ∃ j, k = j + 1 := ⟨k - 1, by omega⟩
        have c2 := hc j (by omega)
        generalize e1 : Pl.at0 l (j + 1) = x at *
        generalize e2 : Pl.at0 l j = y at *
        have E := Lib.hid (And.intro e1 e2)
        clear hc h4 e1 e2 h0
        go_wp2_with fail
        · have hle : x ≤ y := by assumption
          go_ret
          refine ⟨ret_bool (HF.out j hlt ?_).symm, rfl⟩
          rw [E.out.1, E.out.2]; exact hle
        · have hxy : y < x := by assumption
          refine ⟨⟨j + 1 + 1, by omega, by go_num, fun i hi => ?_⟩, by simp [intOf]; omega⟩
          by_cases e : i = j
          · rw [e, E.out.1, E.out.2]; exact hxy
          · exact Hasc.out i (by omega)
    · obtain rfl : k = n := by omega
      go_wp2_with fail
      go_ret
      exact ⟨ret_bool (HT.out Hasc.out).symm, rfl⟩
set_option maxHeartbeats 400000 in
theorem rasc_q (v : Value) (l : List Int) (w : World) (h : RdI w v l) (hm : l.length ≤ 9223372036854775807) :
    Calls Try.prog 25 #[v] w fun e w' => e = .returned (.bool (Pl.ascB l)) ∧ ∃ m, w' = w.drewN m := by
  obtain ⟨a, cap, rfl, h1, h2, h3, h4⟩ := h.shape0
  have HT := Lib.hid (show Pl.AscTo l l.length → Pl.ascB l = true from fun h => (Pl.asc_iff l).2 h)
  have HF := Lib.hid (show ∀ j, j + 1 < l.length → Pl.at0 l (j + 1) ≤ Pl.at0 l j → Pl.ascB l = false from fun j hj hle => Pl.ascB_false hj (by omega))
  generalize hn : l.length = n at *
  have HN := Lib.hid hn
  clear hn h
  go_enter Try.func25, Try.ntmps25
  go_wp2_with fail
  go_loopw [3] (fun i wr => ∃ k : Nat, i = .int .i64 ((k + 1 : Nat) : Int) ∧ (k = 0 ∨ k < n) ∧ Pl.AscTo l (k + 1) ∧ ∃ m, wr = w.drewN m) (fun i _ => n - (intOf i).toNat)
  case atStart => exact ⟨0, rfl, .inl rfl, fun j hj => absurd hj (by omega), 0, rfl⟩
  case round =>
    obtain ⟨k, rfl, hk, hasc, m, rfl⟩ := hrel
    have Hasc := Lib.hid hasc
    clear hasc
    by_cases hlt : k + 1 < n
    · obtain ⟨b, off, rfl, hc⟩ := h4 (by omega)
      have c1 := hc (k + 1) hlt
      have c2 := hc k (by omega)
      generalize e1 : Pl.at0 l (k + 1) = x at *
      generalize e2 : Pl.at0 l k = y at *
      have E := Lib.hid (And.intro e1 e2)
      have i1 : (k : Int) + 1 < (n : Int) := by omega
      have i2 : (k : Int) < (n : Int) := by omega
      have j1 : IntKind.i64.wrap ((k : Int) + 1 - 1) = (k : Int) := by rw [Int.add_sub_cancel]; exact IntWalk.i64_in _ (by omega)
      have j2 : ((k : Int) + 1).toNat = k + 1 := by omega
      clear hc h4 e1 e2 hk
      go_wp2_with fail
      go_quiet (fail)
      clear i1 i2 j1 j2
      go_wp2_with fail
      · have hle : x ≤ y := by assumption
        go_ret
        refine ⟨ret_bool (HF.out k hlt ?_).symm, m + nq, by first | rfl | exact World.drewN_drewN _ _ _⟩
        rw [E.out.1, E.out.2]; exact hle
      · have hxy : y < x := by assumption
        refine ⟨⟨k + 1, by go_num, .inr (by omega), fun i hi => ?_, m + nq, by first | rfl | exact World.drewN_drewN _ _ _⟩, by simp [intOf]; omega⟩
        by_cases e : i = k
        · rw [e, E.out.1, E.out.2]; exact hxy
        · exact Hasc.out i (by omega)
    · have hfin := Lib.hid (HT.out (fun i hi => Hasc.out i (by omega)))
      clear hk
      go_wp2_with fail
      go_ret
      exact ⟨ret_bool hfin.out.symm, m, rfl⟩
theorem rasc_any (v : Value) (l : List Int) (w : World) (h : RdI w v l) (hm : l.length ≤ 9223372036854775807) :
    Calls Try.prog 25 #[v] w fun e w' => e = .returned (.bool (Pl.ascB l)) ∧ Below w.heap.size w w' :=
  (rasc_q v l w h hm).mono fun _ _ ⟨h1, m, h2⟩ => ⟨h1, h2 ▸ below_drewN (Below.refl _ _) m⟩
/-- x is not among the first k. -/
def NotIn (l : List Int) (x : Int) (k : Nat) : Prop := ∀ j, j < k → Pl.at0 l j ≠ x
set_option maxHeartbeats 400000 in
theorem has_any (v : Value) (l : List Int) (x : Int) (w : World) (h : RdI w v l) (hm : l.length ≤ 9223372036854775807) :
    Calls Try.prog 29 #[v, .int .i64 x] w fun e w' => e = .returned (.bool (l.contains x)) ∧ w = w' := by
  obtain ⟨a, cap, rfl, h1, h2, h3, h4⟩ := h.shape0
  have HT := Lib.hid (show NotIn l x l.length → l.contains x = false from Pl.contains_false)
  have HF := Lib.hid (show ∀ j, j < l.length → Pl.at0 l j = x → l.contains x = true from fun j => Pl.contains_true)
  generalize hc : l.contains x = r at *
  generalize hn : l.length = n at *
  have HN := Lib.hid hn
  clear hn h hc
  go_enter Try.func29, Try.ntmps29
  go_wp2_with fail
  go_loop [5] (fun i => ∃ k : Nat, i = .int .i64 (k : Int) ∧ k ≤ n ∧ NotIn l x k) (fun i => n - (intOf i).toNat)
  case atStart => exact ⟨0, rfl, Nat.zero_le _, fun j hj => absurd hj (by omega)⟩
  case round =>
    obtain ⟨k, rfl, hk, hasc⟩ := hrel
    have Hasc := Lib.hid hasc
    clear hasc
    by_cases hlt : k < n
    · obtain ⟨b, off, rfl, hc⟩ := h4 (by omega)
      have c1 := hc k hlt
      generalize e1 : Pl.at0 l k = y at *
      have E := Lib.hid e1
      clear hc h4 e1
      go_wp2_with fail
      · have hxy : y = x := eq_of_beq (by assumption)
        go_ret
        refine ⟨ret_bool (HF.out k hlt ?_).symm, rfl⟩
        rw [E.out]; exact hxy
      · have hxy : (y == x) = false := by assumption
        refine ⟨⟨k + 1, by go_num, by omega, fun i hi => ?_⟩, by simp [intOf]; omega⟩
        by_cases e : i = k
        · rw [e, E.out]; exact beq_eq_false_iff_ne.1 hxy
        · exact Hasc.out i (by omega)
    · obtain rfl : k = n := by omega
      have hfin := Lib.hid (HT.out Hasc.out)
      go_wp2_with fail
      go_ret
      exact ⟨ret_bool hfin.out.symm, rfl⟩
def IdxOf (r : Bool) (e : Ending) : Prop := ∃ i : Int, e = .returned (.int .i64 i) ∧ decide (0 ≤ i) = r
set_option maxHeartbeats 400000 in
theorem index_any (v : Value) (l : List Int) (x : Int) (w : World) (h : RdI w v l) (hm : l.length ≤ 9223372036854775807) :
    Calls Try.prog 32 #[v, .int .i64 x] w fun e w' => IdxOf (l.contains x) e ∧ w = w' := by
  obtain ⟨a, cap, rfl, h1, h2, h3, h4⟩ := h.shape0
  have HT := Lib.hid (show NotIn l x l.length → l.contains x = false from Pl.contains_false)
  have HF := Lib.hid (show ∀ j, j < l.length → Pl.at0 l j = x → l.contains x = true from fun j => Pl.contains_true)
  generalize hc : l.contains x = r at *
  generalize hn : l.length = n at *
  have HN := Lib.hid hn
  clear hn h hc
  go_enter Try.func32, Try.ntmps32
  go_wp2_with fail
  go_loop [8] (fun i => ∃ k : Nat, i = .int .i64 (k : Int) ∧ k ≤ n ∧ NotIn l x k) (fun i => n - (intOf i).toNat)
  case atStart => exact ⟨0, rfl, Nat.zero_le _, fun j hj => absurd hj (by omega)⟩
  case round =>
    obtain ⟨k, rfl, hk, hasc⟩ := hrel
    have Hasc := Lib.hid hasc
    clear hasc
    by_cases hlt : k < n
    · obtain ⟨b, off, rfl, hc⟩ := h4 (by omega)
      have c1 := hc k hlt
      generalize e1 : Pl.at0 l k = y at *
      have E := Lib.hid e1
      clear hc h4 e1
      go_wp2_with fail
      · have hxy : x = y := eq_of_beq (by assumption)
        go_ret
        refine ⟨⟨k, rfl, ?_⟩, rfl⟩
        rw [HF.out k hlt (by rw [E.out]; exact hxy.symm)]; simp
      · have hxy : (x == y) = false := by assumption
        refine ⟨⟨k + 1, by go_num, by omega, fun i hi => ?_⟩, by simp [intOf]; omega⟩
        by_cases e : i = k
        · rw [e, E.out]; exact (beq_eq_false_iff_ne.1 hxy).symm
        · exact Hasc.out i (by omega)
    · obtain rfl : k = n := by omega
      have hfin := Lib.hid (HT.out Hasc.out)
      go_wp2_with fail
      go_ret
      exact ⟨⟨-1, rfl, by rw [hfin.out]; rfl⟩, rfl⟩
theorem contains_any (v : Value) (l : List Int) (x : Int) (w : World) (h : RdI w v l) (hm : l.length ≤ 9223372036854775807) :
    Calls Try.prog 28 #[v, .int .i64 x] w fun e w' => e = .returned (.bool (l.contains x)) ∧ w = w' := by
  have H := Lib.hid fun w' (hw : w = w') => index_any v l x w' (hw ▸ h) hm
  obtain ⟨a, cap, rfl, h1, h2, h3, h4⟩ := h.shape0
  generalize hc : l.contains x = r at *
  clear h4 h hc
  go_enter Try.func28, Try.ntmps28
  go_wp2_with fail
  refine (H.out _ rfl).mono ?_; rintro e w1 ⟨⟨i, rfl, hi⟩, rfl⟩
  have HI := Lib.hid hi
  clear hi
  go_wp2_with fail
  go_ret
  exact ⟨ret_bool HI.out, rfl⟩
theorem less_any (x y : Int) (w : World) : Calls Try.prog 30 #[.int .i64 x, .int .i64 y] w fun e w' => e = .returned (.bool (decide (x < y))) ∧ w = w' := by
  go_enter Try.func30, Try.ntmps30
  go_wp2
  go_ret
  exact ⟨rfl, rfl⟩
theorem nan_any (x : Int) (w : World) : Calls Try.prog 31 #[.int .i64 x] w fun e w' => e = .returned (.bool false) ∧ w = w' := by
  go_enter Try.func31, Try.ntmps31
  go_wp2
  go_ret
  exact ⟨rfl, rfl⟩
end Go.Proofs.Ytffmdhloplindaa
