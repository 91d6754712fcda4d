/- How long tasks wait, in plain functions: round by round as the program counts, and from each place as the reference does. No program here. -/
import Derived.Test.YtffmdhloplindaaPl
namespace Go.Proofs.Ytffmdhloplindaa

structure En where
  run : List Int
  pick : Int
instance : Inhabited En := ⟨⟨[], 0⟩⟩
def enAt (es : List En) (j : Nat) : En := es.getD j default
def enOk (e : En) : Bool := Pl.ascB e.run && e.run.contains e.pick
def validB (es : List En) : Bool := es.all enOk
/-- No list of this many numbers is too long for an int. -/
def Small (es : List En) : Prop := es.length ≤ 4611686018427387903 ∧ ∀ j, j < es.length → (enAt es j).run.length ≤ 4611686018427387903
def Tiny (es : List En) : Prop := es.length ≤ 1000 ∧ ∀ j, j < es.length → (enAt es j).run.length ≤ 1000
theorem Tiny.small {es : List En} (h : Tiny es) : Small es := ⟨by have := h.1; omega, fun j hj => by have := h.2 j hj; omega⟩
theorem enAt_get {es : List En} {j : Nat} (h : j < es.length) : enAt es j = es[j] := by unfold enAt; rw [List.getD_eq_getElem?_getD, List.getElem?_eq_getElem h]; rfl
theorem enAt_mem {es : List En} {j : Nat} (h : j < es.length) : enAt es j ∈ es := by rw [enAt_get h]; exact List.getElem_mem h
theorem valid_snoc (es : List En) (k : Nat) (h : k < es.length) : validB (es.take (k + 1)) = (validB (es.take k) && enOk (enAt es k)) := by
  unfold validB
  rw [List.take_succ_eq_append_getElem h, List.all_append, enAt_get h]; simp
theorem valid_false (es : List En) (k : Nat) (h : k < es.length) (h' : enOk (enAt es k) = false) : validB es = false := by
  unfold validB
  rw [List.all_eq_false]
  exact ⟨enAt es k, enAt_mem h, by rw [h']; decide⟩
theorem valid_at {es : List En} (h : validB es = true) {k : Nat} (hk : k < es.length) : Pl.ascB (enAt es k).run = true ∧ (enAt es k).run.contains (enAt es k).pick = true := by
  have := List.all_eq_true.1 h _ (enAt_mem hk)
  unfold enOk at this
  rwa [Bool.and_eq_true] at this

namespace Pm
/-- The task is runnable and not picked. -/
def wrun (e : En) (x : Int) : Bool := e.run.contains x && !(x == e.pick)
/-- Latest entry first: how long the task waits now, and how long it has waited at most. -/
def nowR : List En → Int → Nat
  | [], _ => 0
  | e :: r, x => if wrun e x = true then nowR r x + 1 else 0
def mostR : List En → Int → Nat
  | [], _ => 0
  | e :: r, x => max (mostR r x) (nowR (e :: r) x)
def now (es : List En) (x : Int) : Nat := nowR es.reverse x
def most (es : List En) (x : Int) : Nat := mostR es.reverse x
theorem nowR_le : ∀ (r : List En) (x : Int), nowR r x ≤ r.length
  | [], _ => Nat.le_refl _
  | e :: r, x => by
    unfold nowR
    have := nowR_le r x
    split <;> simp <;> omega
theorem mostR_le : ∀ (r : List En) (x : Int), mostR r x ≤ r.length
  | [], _ => Nat.le_refl _
  | e :: r, x => by
    have h1 := mostR_le r x
    have h2 := nowR_le (e :: r) x
    unfold mostR
    simp only [List.length_cons] at *
    omega
theorem now_le (es : List En) (x : Int) : now es x ≤ es.length := by have := nowR_le es.reverse x; rwa [List.length_reverse] at this
theorem most_le (es : List En) (x : Int) : most es x ≤ es.length := by have := mostR_le es.reverse x; rwa [List.length_reverse] at this
theorem rev_take {es : List En} {k : Nat} (h : k < es.length) : (es.take (k + 1)).reverse = enAt es k :: (es.take k).reverse := by
  rw [List.take_succ_eq_append_getElem h, List.reverse_append, enAt_get h]; rfl
theorem now_succ {es : List En} {k : Nat} (h : k < es.length) (x : Int) : now (es.take (k + 1)) x = if wrun (enAt es k) x = true then now (es.take k) x + 1 else 0 := by
  unfold now; rw [rev_take h]; rfl
theorem most_succ {es : List En} {k : Nat} (h : k < es.length) (x : Int) : most (es.take (k + 1)) x = max (most (es.take k) x) (now (es.take (k + 1)) x) := by
  unfold most now; rw [rev_take h]; rfl

/-- The state within an entry: behind j of its tasks. -/
def base (run : List Int) (f : Int → Nat) (x : Int) : Nat := if run.contains x = true then f x else 0
def nowJ (run : List Int) (pick : Int) (f : Int → Nat) (j : Nat) (x : Int) : Nat :=
  if (run.take j).contains x = true then (if x = pick then 0 else base run f x + 1) else base run f x
def mostJ (run : List Int) (pick : Int) (f g : Int → Nat) (j : Nat) (x : Int) : Nat :=
  if (run.take j).contains x = true ∧ x ≠ pick then max (g x) (base run f x + 1) else g x
theorem nowJ_zero (run : List Int) (pick : Int) (f : Int → Nat) (x : Int) : nowJ run pick f 0 x = base run f x := rfl
theorem mostJ_zero (run : List Int) (pick : Int) (f g : Int → Nat) (x : Int) : mostJ run pick f g 0 x = g x := by unfold mostJ; simp
theorem take_contains {run : List Int} {j : Nat} (h : j < run.length) (x : Int) : (run.take (j + 1)).contains x = ((run.take j).contains x || (x == Pl.at0 run j)) := by
  rw [List.take_succ_eq_append_getElem h]
  have : Pl.at0 run j = run[j] := by unfold Pl.at0; rw [List.getD_eq_getElem?_getD, List.getElem?_eq_getElem h]; rfl
  rw [this, Bool.eq_iff_iff, Bool.or_eq_true, List.contains_iff_mem, List.contains_iff_mem, List.mem_append, List.mem_singleton, beq_iff_eq]
theorem take_fresh {run : List Int} (ha : Pl.Asc run) {j : Nat} (h : j < run.length) : (run.take j).contains (Pl.at0 run j) = false := by
  cases e : (run.take j).contains (Pl.at0 run j) with
  | false => rfl
  | true =>
    rw [List.contains_iff_mem] at e
    obtain ⟨i, hi, e⟩ := List.mem_iff_getElem.1 e
    have hij : i < j := by rw [List.length_take] at hi; omega
    have := ha.mono hij h
    rw [List.getElem_take] at e
    have e2 : Pl.at0 run i = run[i] := by unfold Pl.at0; rw [List.getD_eq_getElem?_getD, List.getElem?_eq_getElem (by omega)]; rfl
    rw [e2, e] at this; omega
theorem nowJ_succ {run : List Int} (ha : Pl.Asc run) (pick : Int) (f : Int → Nat) {j : Nat} (h : j < run.length) (x : Int) :
    nowJ run pick f (j + 1) x = if x = Pl.at0 run j then (if x = pick then 0 else nowJ run pick f j x + 1) else nowJ run pick f j x := by
  unfold nowJ
  rw [take_contains h]
  by_cases hx : x = Pl.at0 run j
  · subst hx
    rw [take_fresh ha h]; simp
  · simp [hx]
theorem mostJ_succ {run : List Int} (ha : Pl.Asc run) (pick : Int) (f g : Int → Nat) {j : Nat} (h : j < run.length) (x : Int) :
    mostJ run pick f g (j + 1) x = if x = Pl.at0 run j then (if x = pick then g x else max (mostJ run pick f g j x) (nowJ run pick f (j + 1) x)) else mostJ run pick f g j x := by
  unfold mostJ
  rw [take_contains h]
  by_cases hx : x = Pl.at0 run j
  · subst hx
    rw [nowJ_succ ha pick f h]
    unfold nowJ
    rw [take_fresh ha h]
    by_cases hp : Pl.at0 run j = pick <;> simp [hp]
  · simp [hx]
theorem nowJ_all (e : En) (f : Int → Nat) (x : Int) : nowJ e.run e.pick f e.run.length x = if wrun e x = true then f x + 1 else 0 := by
  unfold nowJ wrun base
  rw [List.take_length]
  cases e.run.contains x <;> by_cases h2 : x = e.pick <;> simp [h2]
theorem mostJ_all (e : En) (f g : Int → Nat) (x : Int) : mostJ e.run e.pick f g e.run.length x = max (g x) (if wrun e x = true then f x + 1 else 0) := by
  unfold mostJ wrun base
  rw [List.take_length]
  cases e.run.contains x <;> by_cases h2 : x = e.pick <;> simp [h2]
theorem nowJ_end {es : List En} {k : Nat} (h : k < es.length) (x : Int) : nowJ (enAt es k).run (enAt es k).pick (now (es.take k)) (enAt es k).run.length x = now (es.take (k + 1)) x := by
  rw [nowJ_all, now_succ h]
theorem mostJ_end {es : List En} {k : Nat} (h : k < es.length) (x : Int) : mostJ (enAt es k).run (enAt es k).pick (now (es.take k)) (most (es.take k)) (enAt es k).run.length x = most (es.take (k + 1)) x := by
  rw [mostJ_all, most_succ h, now_succ h]
theorem base_le (run : List Int) (f : Int → Nat) (x : Int) : base run f x ≤ f x := by unfold base; split <;> omega
theorem nowJ_le (run : List Int) (pick : Int) (f : Int → Nat) (j : Nat) (x : Int) : nowJ run pick f j x ≤ f x + 1 := by
  have := base_le run f x
  unfold nowJ; split
  · split <;> omega
  · omega
theorem mostJ_le (run : List Int) (pick : Int) (f g : Int → Nat) (j : Nat) (x : Int) : mostJ run pick f g j x ≤ max (g x) (f x + 1) := by
  have := base_le run f x
  unfold mostJ; split <;> omega
end Pm
end Go.Proofs.Ytffmdhloplindaa
