/- Schedules, in plain lists: ascending lists, the next task of a round robin. No program here. -/
namespace Go.Proofs.Ytffmdhloplindaa.Pl

/-- The element at a place; 0 where there is none. -/
def at0 (l : List Int) (j : Nat) : Int := l.getD j 0
def ascB : List Int → Bool
  | [] => true
  | [_] => true
  | x :: y :: r => decide (x < y) && ascB (y :: r)
def Asc (l : List Int) : Prop := ∀ j, j + 1 < l.length → at0 l j < at0 l (j + 1)
theorem asc_iff : ∀ l : List Int, ascB l = true ↔ Asc l
  | [] => ⟨fun _ _ h => by simp at h, fun _ => rfl⟩
  | [_] => ⟨fun _ _ h => by simp at h, fun _ => rfl⟩
  | x :: y :: r => by
    unfold ascB
    rw [Bool.and_eq_true, decide_eq_true_eq, asc_iff (y :: r)]
    constructor
    · rintro ⟨h1, h2⟩ j hj
      cases j with
      | zero => exact h1
      | succ j => exact h2 j (by simpa using hj)
    · intro h
      exact ⟨h 0 (by simp), fun j hj => h (j + 1) (by simpa using hj)⟩
theorem ascB_false {l : List Int} {j : Nat} (h : j + 1 < l.length) (h' : ¬ at0 l j < at0 l (j + 1)) : ascB l = false := by
  cases e : ascB l with
  | false => rfl
  | true => exact absurd ((asc_iff l).1 e j h) h'
/-- Ascending as far as place k. -/
def AscTo (l : List Int) (k : Nat) : Prop := ∀ j, j + 1 < k → at0 l j < at0 l (j + 1)
theorem Asc.lt {l : List Int} (h : Asc l) : ∀ d i, i + d + 1 < l.length → at0 l i < at0 l (i + d + 1)
  | 0, i, hi => h i hi
  | d + 1, i, hi => by
    have h1 := h.lt d i (by omega)
    have h2 := h (i + d + 1) (by omega)
    have e : i + (d + 1) + 1 = i + d + 1 + 1 := by omega
    rw [e]; omega
theorem Asc.mono {l : List Int} (h : Asc l) {i j : Nat} (hij : i < j) (hj : j < l.length) : at0 l i < at0 l j := by
  have := h.lt (j - i - 1) i (by omega)
  rwa [show i + (j - i - 1) + 1 = j by omega] at this

theorem at0_mem {l : List Int} {j : Nat} (h : j < l.length) : at0 l j ∈ l := by
  unfold at0
  rw [List.getD_eq_getElem?_getD, List.getElem?_eq_getElem h]; exact List.getElem_mem h
theorem contains_true {l : List Int} {x : Int} {j : Nat} (h : j < l.length) (h' : at0 l j = x) : l.contains x = true := by
  rw [List.contains_iff_mem]; rw [← h']; exact at0_mem h
theorem contains_false {l : List Int} {x : Int} (h : ∀ j, j < l.length → at0 l j ≠ x) : l.contains x = false := by
  cases e : l.contains x with
  | false => rfl
  | true =>
    rw [List.contains_iff_mem] at e
    obtain ⟨j, hj, e⟩ := List.mem_iff_getElem.1 e
    exact absurd (by simp [at0, List.getElem?_eq_getElem hj, e]) (h j hj)

/-- The next task: the least one above, else the first. -/
def nextV (l : List Int) (last : Int) : Int := (l.find? fun x => decide (last < x)).getD (at0 l 0)
theorem find_at (l : List Int) (p : Int → Bool) : ∀ i, i < l.length → p (at0 l i) = true → (∀ j, j < i → p (at0 l j) = false) → l.find? p = some (at0 l i) := by
  induction l with
  | nil => intro i h; simp at h
  | cons x r ih =>
    intro i hi hp hb
    cases i with
    | zero =>
      have : p x = true := hp
      show _ = some x
      simp [this]
    | succ i =>
      have h0 : p x = false := hb 0 (by omega)
      rw [List.find?_cons, h0]
      exact ih i (by simpa using hi) hp (fun j hj => hb (j + 1) (by omega))
theorem find_no (l : List Int) (p : Int → Bool) (h : ∀ j, j < l.length → p (at0 l j) = false) : l.find? p = none := by
  rw [List.find?_eq_none]
  intro x hx
  obtain ⟨j, hj, e⟩ := List.mem_iff_getElem.1 hx
  have := h j hj
  rw [show at0 l j = x by unfold at0; rw [List.getD_eq_getElem?_getD, List.getElem?_eq_getElem hj, Option.getD_some, e]] at this
  simp [this]
theorem next_at {l : List Int} {last : Int} {i : Nat} (hi : i < l.length) (h1 : last < at0 l i) (h2 : ∀ j, j < i → at0 l j ≤ last) : nextV l last = at0 l i := by
  unfold nextV
  rw [find_at l _ i hi (by simpa using h1) (fun j hj => by have := h2 j hj; simp; omega)]; rfl
theorem next_no {l : List Int} {last : Int} (h : ∀ j, j < l.length → at0 l j ≤ last) : nextV l last = at0 l 0 := by
  unfold nextV
  rw [find_no l _ (fun j hj => by have := h j hj; simp; omega)]; rfl
/-- What the program computes from the place of the binary search. -/
theorem next_of_search {l : List Int} (hasc : Asc l) (last : Int) (i : Nat) (hi : i ≤ l.length) (h1 : ∀ j, j < i → at0 l j < last) (h2 : ∀ j, i ≤ j → j < l.length → last ≤ at0 l j) :
    (i < l.length → at0 l i = last → at0 l ((i + 1) % l.length) = nextV l last) ∧ ((i < l.length → at0 l i ≠ last) → at0 l (i % l.length) = nextV l last) := by
  constructor
  · intro hlt heq
    by_cases hl : i + 1 < l.length
    · rw [Nat.mod_eq_of_lt hl]
      have := hasc i hl
      refine (next_at hl (by omega) fun j hj => ?_).symm
      by_cases e : j = i
      · rw [e]; omega
      · have := h1 j (by omega); omega
    · have e : i + 1 = l.length := by omega
      rw [e, Nat.mod_self]
      refine (next_no fun j hj => ?_).symm
      by_cases e : j = i
      · rw [e]; omega
      · have := h1 j (by omega); omega
  · intro hne2
    by_cases hl : i < l.length
    · rw [Nat.mod_eq_of_lt hl]
      have ha := h2 i (Nat.le_refl _) hl
      have hb := hne2 hl
      exact (next_at hl (by omega) fun j hj => by have := h1 j hj; omega).symm
    · have e : i = l.length := by omega
      rw [e, Nat.mod_self]
      exact (next_no fun j hj => by have := h1 j (by omega); omega).symm
end Go.Proofs.Ytffmdhloplindaa.Pl
