/- The longest wait, counted from each place as the reference does, is the one that the program counts; the least number within which a schedule is fair. No program here. -/
import Derived.Test.YtffmdhloplindaaPm
namespace Go.Proofs.Ytffmdhloplindaa
namespace Pm
def pre : List En → Int → Nat
  | [], _ => 0
  | e :: l, x => if wrun e x = true then pre l x + 1 else 0
def lw : List En → Int → Nat
  | [], _ => 0
  | e :: l, x => max (pre (e :: l) x) (lw l x)
theorem pre_le_lw : ∀ (l : List En) (x : Int), pre l x ≤ lw l x
  | [], _ => Nat.le_refl _
  | _ :: _, _ => Nat.le_max_left _ _
theorem mostR_split : ∀ (l r : List En) (x : Int), mostR (l.reverse ++ r) x = max (mostR r x) (max (if pre l x = 0 then 0 else nowR r x + pre l x) (lw l x))
  | [], r, x => by simp [pre, lw]
  | e :: l, r, x => by
    have e1 : (e :: l).reverse ++ r = l.reverse ++ (e :: r) := by simp
    rw [e1, mostR_split l (e :: r) x]
    have hp := pre_le_lw l x
    show max (max (mostR r x) (nowR (e :: r) x)) _ = max _ (max _ (max (pre (e :: l) x) (lw l x)))
    cases hw : wrun e x with
    | true =>
      have h1 : nowR (e :: r) x = nowR r x + 1 := if_pos hw
      have h2 : pre (e :: l) x = pre l x + 1 := if_pos hw
      rw [h1, h2, if_neg (Nat.succ_ne_zero _)]
      by_cases h3 : pre l x = 0
      · rw [if_pos h3]; omega
      · rw [if_neg h3]; omega
    | false =>
      have h1 : nowR (e :: r) x = 0 := if_neg (by rw [hw]; decide)
      have h2 : pre (e :: l) x = 0 := if_neg (by rw [hw]; decide)
      rw [h1, h2, if_pos rfl]
      by_cases h3 : pre l x = 0
      · rw [if_pos h3]; omega
      · rw [if_neg h3]; omega
theorem most_lw (es : List En) (x : Int) : most es x = lw es x := by
  have h := mostR_split es [] x
  rw [List.append_nil] at h
  have hp := pre_le_lw es x
  unfold most
  rw [h]
  show max 0 (max (if pre es x = 0 then 0 else 0 + pre es x) (lw es x)) = lw es x
  split <;> omega
def maxl (l : List Nat) : Nat := l.foldl max 0
theorem foldl_max : ∀ (l : List Nat) (a : Nat), l.foldl max a = max a (l.foldl max 0)
  | [], a => by simp
  | x :: l, a => by
    rw [List.foldl_cons, List.foldl_cons, foldl_max l (max a x), foldl_max l (max 0 x)]; omega
theorem maxl_append (l r : List Nat) : maxl (l ++ r) = max (maxl l) (maxl r) := by
  unfold maxl; rw [List.foldl_append, foldl_max r]
theorem le_maxl {l : List Nat} {n : Nat} (h : n ∈ l) : n ≤ maxl l := by
  obtain ⟨a, b, rfl⟩ := List.append_of_mem h
  rw [maxl_append]
  have : maxl (n :: b) = max n (maxl b) := by unfold maxl; rw [List.foldl_cons, foldl_max]; simp
  rw [this]; omega
theorem maxl_le {l : List Nat} {m : Nat} (h : ∀ n ∈ l, n ≤ m) : maxl l ≤ m := by
  induction l with
  | nil => exact Nat.zero_le _
  | cons a l ih =>
    have : maxl (a :: l) = max a (maxl l) := by unfold maxl; rw [List.foldl_cons, foldl_max]; simp
    rw [this]
    have := h a (by simp)
    have := ih (fun n hn => h n (by simp [hn]))
    omega
/-- The greatest wait of all tasks. -/
def worst (es : List En) : Nat := maxl (es.flatMap fun e => e.run.map (most es))
theorem mostR_pos : ∀ (r : List En) (x : Int), 0 < mostR r x → ∃ e ∈ r, x ∈ e.run
  | [], _, h => absurd h (by simp [mostR])
  | e :: r, x, h => by
    by_cases h1 : 0 < mostR r x
    · obtain ⟨e', h2, h3⟩ := mostR_pos r x h1
      exact ⟨e', by simp [h2], h3⟩
    · have h2 : 0 < nowR (e :: r) x := by unfold mostR at h; omega
      refine ⟨e, by simp, ?_⟩
      unfold nowR at h2
      split at h2
      · rename_i hw
        unfold wrun at hw
        rw [Bool.and_eq_true, List.contains_iff_mem] at hw
        exact hw.1
      · omega
theorem most_le_worst (es : List En) (x : Int) : most es x ≤ worst es := by
  by_cases h : 0 < most es x
  · obtain ⟨e, h1, h2⟩ := mostR_pos _ x h
    exact le_maxl (List.mem_flatMap.2 ⟨e, by simpa using h1, List.mem_map.2 ⟨x, h2, rfl⟩⟩)
  · omega
theorem worst_le {es : List En} {m : Nat} (h : ∀ e ∈ es, ∀ x ∈ e.run, most es x ≤ m) : worst es ≤ m := by
  refine maxl_le fun n hn => ?_
  obtain ⟨e, he, hn⟩ := List.mem_flatMap.1 hn
  obtain ⟨x, hx, rfl⟩ := List.mem_map.1 hn
  exact h e he x hx
theorem worst_eq {es : List En} {m : Nat} (h1 : ∀ e ∈ es, ∀ x ∈ e.run, most es x ≤ m) (h2 : m = 0 ∨ ∃ x, most es x = m) : worst es = m := by
  have := worst_le h1
  rcases h2 with h2 | ⟨x, h2⟩
  · omega
  · have := most_le_worst es x; omega
theorem worst_len (es : List En) : worst es ≤ es.length := worst_le fun _ _ x _ => most_le es x
end Pm
end Go.Proofs.Ytffmdhloplindaa
