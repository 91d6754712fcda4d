/- Lists of items, in plain Lean: which are valid. No program here. -/
namespace Go.Proofs.YtenkeodfijladaaGreatDoor

structure It where
  key : Int
  ck : Int
  off : Int
  size : Int
  deriving DecidableEq
/-- The numbers fit their kinds. -/
def It.Wf (x : It) : Prop := 0 ≤ x.key ∧ x.key < 18446744073709551616 ∧ 0 ≤ x.ck ∧ x.ck < 4294967296 ∧ -9223372036854775808 ≤ x.off ∧ x.off ≤ 9223372036854775807 ∧ -9223372036854775808 ≤ x.size ∧ x.size ≤ 9223372036854775807
def okP (x : It) : Prop := 16 ≤ x.off ∧ x.off ≤ 1048576 ∧ x.off % 8 = 0 ∧ 0 ≤ x.size ∧ x.size ≤ 4096
instance (x : It) : Decidable (okP x) := by unfold okP; exact inferInstance
def okB (x : It) : Bool := decide (okP x)
def it0 : It := ⟨0, 0, 0, 0⟩
instance : Inhabited It := ⟨it0⟩
/-- The item at a place. -/
def iat (l : List It) (j : Nat) : It := l.getD j it0
theorem iat_mem {l : List It} {j : Nat} (h : j < l.length) : iat l j ∈ l := by
  unfold iat
  rw [List.getD_eq_getElem?_getD, List.getElem?_eq_getElem h]; exact List.getElem_mem h
theorem mem_iat {l : List It} {x : It} (h : x ∈ l) : ∃ j, j < l.length ∧ iat l j = x := by
  obtain ⟨j, hj, e⟩ := List.mem_iff_getElem.1 h
  exact ⟨j, hj, by unfold iat; rw [List.getD_eq_getElem?_getD, List.getElem?_eq_getElem hj, Option.getD_some, e]⟩
theorem iat_eq {l : List It} {j : Nat} (h : j < l.length) : l[j]? = some (iat l j) := by
  unfold iat
  rw [List.getD_eq_getElem?_getD, List.getElem?_eq_getElem h]; rfl
theorem take_snoc {l : List It} {j : Nat} (h : j < l.length) : l.take (j + 1) = l.take j ++ [iat l j] := by
  rw [List.take_succ_eq_append_getElem h]
  congr
  unfold iat
  rw [List.getD_eq_getElem?_getD, List.getElem?_eq_getElem h]; rfl
theorem iat_drop (l : List It) (k i : Nat) : iat (l.drop k) i = iat l (k + i) := by
  unfold iat
  rw [List.getD_eq_getElem?_getD, List.getElem?_drop, ← List.getD_eq_getElem?_getD]
theorem iat_take {l : List It} {k i : Nat} (h : i < k) : iat (l.take k) i = iat l i := by
  unfold iat
  rw [List.getD_eq_getElem?_getD, List.getElem?_take, if_pos h, ← List.getD_eq_getElem?_getD]
theorem set_take_succ : ∀ (a : List It) (i : Nat) (x : It), i < a.length → (a.set i x).take (i + 1) = a.take i ++ [x]
  | [], i, x, h => by simp at h
  | y :: r, 0, x, _ => rfl
  | y :: r, i + 1, x, h => by
    have := set_take_succ r i x (by simpa using h)
    simp only [List.set_cons_succ, List.take_succ_cons, List.cons_append]
    rw [this]
/-- The keys ascend as far as place k. -/
def AscTo (l : List It) (k : Nat) : Prop := ∀ j, j + 1 < k → (iat l j).key < (iat l (j + 1)).key
def Asc (l : List It) : Prop := AscTo l l.length
def ascB : List It → Bool
  | [] => true
  | [_] => true
  | x :: y :: r => decide (x.key < y.key) && ascB (y :: r)
theorem asc_iff : ∀ l : List It, ascB l = true ↔ Asc l
  | [] => ⟨fun _ _ h => by simp at h, fun _ => rfl⟩
  | [_] => ⟨fun _ _ h => by simp at h, fun _ => rfl⟩
  | x :: y :: r => by
    unfold ascB
    rw [Bool.and_eq_true, decide_eq_true_eq, asc_iff (y :: r)]
    constructor
    · rintro ⟨h1, h2⟩ j hj
      cases j with
      | zero => exact h1
      | succ j => exact h2 j (by simpa using hj)
    · intro h
      exact ⟨h 0 (by simp), fun j hj => h (j + 1) (by simpa using hj)⟩
theorem ascB_false {l : List It} {j : Nat} (h : j + 1 < l.length) (h' : (iat l (j + 1)).key ≤ (iat l j).key) : ascB l = false := by
  cases e : ascB l with
  | false => rfl
  | true => exact absurd ((asc_iff l).1 e j h) (by omega)
theorem AscTo.succ {l : List It} {k : Nat} (h : AscTo l k) (h' : ∀ j, k = j + 1 → (iat l j).key < (iat l (j + 1)).key) : AscTo l (k + 1) := fun j hj => by
  by_cases e : k = j + 1
  · exact h' j e
  · exact h j (by omega)
theorem Asc.lt {l : List It} (h : Asc l) : ∀ d i, i + d + 1 < l.length → (iat l i).key < (iat l (i + d + 1)).key
  | 0, i, hi => h i hi
  | d + 1, i, hi => by
    have h1 := h.lt d i (by omega)
    have h2 := h (i + d + 1) (by omega)
    have e : i + (d + 1) + 1 = i + d + 1 + 1 := by omega
    rw [e]; omega
theorem Asc.mono {l : List It} (h : Asc l) {i j : Nat} (hij : i < j) (hj : j < l.length) : (iat l i).key < (iat l j).key := by
  have := h.lt (j - i - 1) i (by omega)
  rwa [show i + (j - i - 1) + 1 = j by omega] at this
/-- A valid list. -/
def vldB (l : List It) : Bool := ascB l && l.all okB
theorem all_true {l : List It} {p : It → Bool} (h : ∀ j, j < l.length → p (iat l j) = true) : l.all p = true := by
  rw [List.all_eq_true]
  intro x hx
  obtain ⟨j, hj, rfl⟩ := mem_iat hx
  exact h j hj
theorem all_false {l : List It} {p : It → Bool} {j : Nat} (h : j < l.length) (h' : p (iat l j) = false) : l.all p = false := by
  cases e : l.all p with
  | false => rfl
  | true => rw [List.all_eq_true] at e; rw [e _ (iat_mem h)] at h'; cases h'
theorem vldB_true {l : List It} (h1 : Asc l) (h2 : ∀ j, j < l.length → okB (iat l j) = true) : vldB l = true := by
  unfold vldB; rw [(asc_iff l).2 h1, all_true h2]; rfl
theorem vldB_no {l : List It} {j : Nat} (h : j < l.length) (h' : okB (iat l j) = false) : vldB l = false := by
  unfold vldB; rw [all_false h h', Bool.and_false]
theorem vldB_asc {l : List It} (h : ascB l = false) : vldB l = false := by unfold vldB; rw [h]; rfl
theorem vldB_iff {l : List It} : vldB l = true ↔ Asc l ∧ ∀ x ∈ l, okP x := by
  unfold vldB
  rw [Bool.and_eq_true, asc_iff, List.all_eq_true]
  exact ⟨fun ⟨a, b⟩ => ⟨a, fun x hx => of_decide_eq_true (b x hx)⟩, fun ⟨a, b⟩ => ⟨a, fun x hx => decide_eq_true (b x hx)⟩⟩
end Go.Proofs.YtenkeodfijladaaGreatDoor
