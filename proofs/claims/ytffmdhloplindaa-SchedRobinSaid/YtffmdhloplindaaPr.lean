/- Round robin over k tasks, in plain lists. No program here. -/
import Derived.Test.YtffmdhloplindaaPw
namespace Go.Proofs.Ytffmdhloplindaa
namespace Pr
open Pm

/-- The k tasks. -/
def tasks (k : Nat) : List Int := (List.range k).map fun i : Nat => 10 * (i : Int)
/-- The schedule of s steps. -/
def robin (k s : Nat) : List En := (List.range s).map fun i => ⟨tasks k, 10 * ((i % k : Nat) : Int)⟩
theorem tasks_length (k : Nat) : (tasks k).length = k := by simp [tasks]
theorem robin_length (k s : Nat) : (robin k s).length = s := by simp [robin]
theorem tasks_succ (k : Nat) : tasks (k + 1) = tasks k ++ [10 * (k : Int)] := by simp [tasks, List.range_succ]
theorem robin_succ (k s : Nat) : robin k (s + 1) = robin k s ++ [⟨tasks k, 10 * ((s % k : Nat) : Int)⟩] := by simp [robin, List.range_succ]
theorem tasks_at {k j : Nat} (h : j < k) : Pl.at0 (tasks k) j = 10 * (j : Int) := by
  unfold Pl.at0 tasks
  rw [List.getD_eq_getElem?_getD, List.getElem?_map, List.getElem?_range h]; rfl
theorem tasks_asc (k : Nat) : Pl.Asc (tasks k) := fun j hj => by
  rw [tasks_length] at hj
  rw [tasks_at hj, tasks_at (by omega)]; omega
theorem tasks_mem {k c : Nat} (h : c < k) : (tasks k).contains (10 * (c : Int)) = true := by
  rw [List.contains_iff_mem]
  exact List.mem_map.2 ⟨c, List.mem_range.2 h, rfl⟩
theorem of_mem {k : Nat} {x : Int} (h : x ∈ tasks k) : ∃ c, c < k ∧ x = 10 * (c : Int) := by
  obtain ⟨c, hc, rfl⟩ := List.mem_map.1 h
  exact ⟨c, List.mem_range.1 hc, rfl⟩
theorem robin_at {k s j : Nat} (h : j < s) : enAt (robin k s) j = ⟨tasks k, 10 * ((j % k : Nat) : Int)⟩ := by
  unfold enAt robin
  rw [List.getD_eq_getElem?_getD, List.getElem?_map, List.getElem?_range h]; rfl
theorem robin_valid {k : Nat} (hk : 0 < k) (s : Nat) : validB (robin k s) = true := by
  refine List.all_eq_true.2 fun e he => ?_
  obtain ⟨i, _, rfl⟩ := List.mem_map.1 he
  unfold enOk
  rw [Bool.and_eq_true]
  exact ⟨(Pl.asc_iff _).2 (tasks_asc k), tasks_mem (Nat.mod_lt _ hk)⟩
/-- How long task c has waited behind m steps. -/
def wait (k m c : Nat) : Nat := if m ≤ c then m else (m - 1 - c) % k
theorem wait_lt {k m c : Nat} (hc : c < k) : wait k m c < k := by
  unfold wait
  split
  · omega
  · exact Nat.mod_lt _ (by omega)
theorem wait_step {k m c : Nat} (hk : 0 < k) (hk6 : k ≤ 6) (hc : c < k) : wait k (m + 1) c = if m % k = c then 0 else wait k m c + 1 := by
  unfold wait
  obtain rfl | rfl | rfl | rfl | rfl | rfl : k = 1 ∨ k = 2 ∨ k = 3 ∨ k = 4 ∨ k = 5 ∨ k = 6 := by omega
  all_goals (split <;> split <;> (try split) <;> omega)
theorem now_robin {k s c : Nat} (hk : 0 < k) (hk6 : k ≤ 6) (hc : c < k) : ∀ m, m ≤ s → now ((robin k s).take m) (10 * (c : Int)) = wait k m c
  | 0, _ => by simp [now, nowR, wait]
  | m + 1, hm => by
    rw [now_succ (show m < (robin k s).length by rw [robin_length]; omega), robin_at (show m < s by omega), now_robin hk hk6 hc m (by omega), wait_step hk hk6 hc]
    unfold wrun
    simp only [tasks_mem hc, Bool.true_and, Bool.not_eq_true', beq_eq_false_iff_ne]
    by_cases e : m % k = c
    · rw [if_pos e, if_neg (by rw [e]; simp)]
    · rw [if_neg e, if_pos (by omega)]
theorem most_robin {k s c : Nat} (hk : 0 < k) (hk6 : k ≤ 6) (hc : c < k) : ∀ m, m ≤ s → most ((robin k s).take m) (10 * (c : Int)) ≤ k - 1
  | 0, _ => by simp [most, mostR]
  | m + 1, hm => by
    rw [most_succ (show m < (robin k s).length by rw [robin_length]; omega), now_robin hk hk6 hc (m + 1) hm]
    have h1 := most_robin (s := s) hk hk6 hc m (by omega)
    have h2 := wait_lt (k := k) (m := m + 1) hc
    omega
theorem worst_robin {k s : Nat} (hk : 0 < k) (hk6 : k ≤ 6) : worst (robin k s) ≤ k - 1 := by
  refine worst_le fun e he x hx => ?_
  obtain ⟨i, _, rfl⟩ := List.mem_map.1 he
  obtain ⟨c, hc, rfl⟩ := of_mem hx
  have := most_robin (s := s) hk hk6 hc s (Nat.le_refl _)
  rwa [List.take_of_length_le (by rw [robin_length]; omega)] at this
theorem now_le_most {es : List En} {x : Int} : ∀ m, m ≤ es.length → ∀ j, j ≤ m → now (es.take j) x ≤ most (es.take m) x
  | 0, _, j, hj => by obtain rfl : j = 0 := by omega
                      simp [now, nowR]
  | m + 1, hm, j, hj => by
    rw [most_succ (show m < es.length by omega)]
    by_cases e : j = m + 1
    · rw [e]; omega
    · have := now_le_most (es := es) (x := x) m (by omega) j (by omega)
      omega
theorem robin_worst {k s : Nat} (hk : 0 < k) (hk6 : k ≤ 6) (hs : 2 * k ≤ s) : k - 1 ≤ worst (robin k s) := by
  have h1 := now_le_most (es := robin k s) (x := 10 * ((0 : Nat) : Int)) s (by rw [robin_length]; omega) k (by omega)
  rw [now_robin hk hk6 hk k (by omega), List.take_of_length_le (by rw [robin_length]; omega)] at h1
  have h2 := most_le_worst (robin k s) (10 * ((0 : Nat) : Int))
  have h3 : wait k k 0 = k - 1 := by
    unfold wait
    rw [if_neg (by omega), Nat.sub_zero]
    exact Nat.mod_eq_of_lt (by omega)
  omega
/-- How often task c has been picked behind s steps. -/
def cnt (k s c : Nat) : Nat := (s + (k - 1 - c)) / k
theorem cnt_step {k s c : Nat} (hk : 0 < k) (hk6 : k ≤ 6) (hc : c < k) : cnt k (s + 1) c = if s % k = c then cnt k s c + 1 else cnt k s c := by
  unfold cnt
  obtain rfl | rfl | rfl | rfl | rfl | rfl : k = 1 ∨ k = 2 ∨ k = 3 ∨ k = 4 ∨ k = 5 ∨ k = 6 := by omega
  all_goals (split <;> omega)
theorem cnt_zero {k c : Nat} (hk : 0 < k) : cnt k 0 c = 0 := by
  unfold cnt
  exact Nat.div_eq_of_lt (by omega)
theorem cnt_bounds {k s c : Nat} (hk : 0 < k) (hk6 : k ≤ 6) (hc : c < k) : s / k ≤ cnt k s c ∧ cnt k s c ≤ s / k + 1 := by
  unfold cnt
  obtain rfl | rfl | rfl | rfl | rfl | rfl : k = 1 ∨ k = 2 ∨ k = 3 ∨ k = 4 ∨ k = 5 ∨ k = 6 := by omega
  all_goals omega
end Pr
end Go.Proofs.Ytffmdhloplindaa
