/- Lists of items, in plain Lean: the list sorted by keys, of each key the last item. No program here. -/
import Derived.Test.YtenkeodfijladaaGreatDoorPi
namespace Go.Proofs.YtenkeodfijladaaGreatDoor

/-- The item x put into an ascending list. -/
def ins : List It → It → List It
  | [], x => [x]
  | y :: r, x => if y.key < x.key then y :: ins r x else if y.key = x.key then x :: r else x :: y :: r
def srt (l : List It) : List It := l.foldl ins []
theorem ins_eq : ∀ (out : List It) (x : It) (k : Nat), k ≤ out.length → (∀ j, j < k → (iat out j).key < x.key) → (k < out.length → x.key ≤ (iat out k).key) →
    ins out x = out.take k ++ x :: out.drop (if k < out.length ∧ (iat out k).key = x.key then k + 1 else k)
  | [], x, k, hk, _, _ => by
    obtain rfl : k = 0 := by simpa using hk
    simp [ins]
  | y :: r, x, 0, _, _, h2 => by
    have h := h2 (by simp)
    have e0 : iat (y :: r) 0 = y := rfl
    rw [e0] at h
    unfold ins
    rw [if_neg (by omega)]
    by_cases e : y.key = x.key
    · rw [if_pos e, if_pos ⟨by simp, by rw [e0]; exact e⟩]; simp
    · rw [if_neg e, if_neg (fun h => e (by rw [e0] at h; exact h.2))]; simp
  | y :: r, x, k + 1, hk, h1, h2 => by
    have e0 : iat (y :: r) 0 = y := rfl
    have hs : ∀ j, iat (y :: r) (j + 1) = iat r j := fun j => rfl
    unfold ins
    rw [if_pos (by have := h1 0 (by omega); rwa [e0] at this)]
    rw [ins_eq r x k (by simpa using hk) (fun j hj => by have := h1 (j + 1) (by omega); rwa [hs] at this) (fun hj => by have := h2 (by simpa using hj); rwa [hs] at this)]
    rw [hs]
    by_cases e : k < r.length ∧ (iat r k).key = x.key
    · rw [if_pos e, if_pos ⟨by simpa using e.1, e.2⟩]; simp
    · rw [if_neg e, if_neg (fun h => e ⟨by simpa using h.1, h.2⟩)]; simp
theorem ins_length (x : It) : ∀ out : List It, (ins out x).length ≤ out.length + 1
  | [] => by simp [ins]
  | y :: r => by
    have := ins_length x r
    unfold ins
    split
    · simp; omega
    · split <;> simp
theorem srt_nil : srt [] = [] := rfl
theorem srt_take {l : List It} {j : Nat} (h : j < l.length) : srt (l.take (j + 1)) = ins (srt (l.take j)) (iat l j) := by
  unfold srt
  rw [take_snoc h, List.foldl_append]; rfl
theorem srt_take_length (l : List It) : ∀ j, j ≤ l.length → (srt (l.take j)).length ≤ j
  | 0, _ => by simp [srt]
  | j + 1, h => by
    rw [srt_take (by omega)]
    have := ins_length (iat l j) (srt (l.take j))
    have := srt_take_length l j (by omega)
    omega
theorem srt_length (l : List It) : (srt l).length ≤ l.length := by
  have := srt_take_length l l.length (Nat.le_refl _)
  rwa [List.take_length] at this
/-- Each item with p: so has the sorted list. -/
theorem ins_all {p : It → Prop} (x : It) (hx : p x) : ∀ out : List It, (∀ y ∈ out, p y) → ∀ y ∈ ins out x, p y
  | [], _ => by simp [ins]; exact hx
  | y :: r, h => by
    have hr := ins_all x hx r (fun z hz => h z (by simp [hz]))
    intro z hz
    unfold ins at hz
    split at hz
    · rcases List.mem_cons.1 hz with rfl | hz
      · exact h _ (by simp)
      · exact hr z hz
    · split at hz
      · rcases List.mem_cons.1 hz with rfl | hz
        · exact hx
        · exact h z (by simp [hz])
      · rcases List.mem_cons.1 hz with rfl | hz
        · exact hx
        · exact h z hz
theorem foldl_all {p : It → Prop} : ∀ (l out : List It), (∀ y ∈ l, p y) → (∀ y ∈ out, p y) → ∀ y ∈ l.foldl ins out, p y
  | [], _, _, h => h
  | x :: l, out, hl, h => foldl_all l (ins out x) (fun y hy => hl y (by simp [hy])) (ins_all x (hl x (by simp)) out h)
theorem srt_all {p : It → Prop} {l : List It} (h : ∀ y ∈ l, p y) : ∀ y ∈ srt l, p y := foldl_all l [] h (fun _ hy => by cases hy)
/-- Ascending, in recursive form. -/
def AscR : List It → Prop
  | [] => True
  | [_] => True
  | x :: y :: r => x.key < y.key ∧ AscR (y :: r)
theorem ascR_iff : ∀ l : List It, AscR l ↔ Asc l
  | [] => ⟨fun _ _ h => by simp at h, fun _ => trivial⟩
  | [_] => ⟨fun _ _ h => by simp at h, fun _ => trivial⟩
  | x :: y :: r => by
    unfold AscR
    rw [ascR_iff (y :: r)]
    constructor
    · rintro ⟨h1, h2⟩ j hj
      cases j with
      | zero => exact h1
      | succ j => exact h2 j (by simpa using hj)
    · intro h
      exact ⟨h 0 (by simp), fun j hj => h (j + 1) (by simpa using hj)⟩
theorem AscR.tail {x : It} {r : List It} (h : AscR (x :: r)) : AscR r := by
  cases r with
  | nil => trivial
  | cons y r => exact h.2
theorem AscR.cons {x : It} {r : List It} (h : AscR r) (hx : ∀ y, r.head? = some y → x.key < y.key) : AscR (x :: r) := by
  cases r with
  | nil => trivial
  | cons y r => exact ⟨hx y rfl, h⟩
theorem ins_head (x y : It) (r : List It) (z : It) (h : (ins r x).head? = some z) (hx : y.key < x.key) (hr : ∀ y', r.head? = some y' → y.key < y'.key) : y.key < z.key := by
  cases r with
  | nil => simp [ins] at h; subst h; exact hx
  | cons u r =>
    unfold ins at h
    split at h
    · simp at h; subst h; exact hr _ rfl
    · split at h <;> (simp at h; subst h; exact hx)
theorem ins_asc (x : It) : ∀ out : List It, AscR out → AscR (ins out x)
  | [], _ => trivial
  | y :: r, h => by
    unfold ins
    split
    · rename_i hlt
      refine (ins_asc x r h.tail).cons fun z hz => ins_head x y r z hz hlt fun y' hy' => ?_
      cases r with
      | nil => cases hy'
      | cons u r => simp at hy'; subst hy'; exact h.1
    · split
      · rename_i h1 h2
        refine h.tail.cons fun z hz => ?_
        cases r with
        | nil => cases hz
        | cons u r => simp at hz; subst hz; rw [← h2]; exact h.1
      · exact ⟨by omega, h⟩
theorem foldl_asc : ∀ (l out : List It), AscR out → AscR (l.foldl ins out)
  | [], _, h => h
  | x :: l, out, h => foldl_asc l (ins out x) (ins_asc x out h)
theorem srt_asc (l : List It) : Asc (srt l) := (ascR_iff _).1 (foldl_asc l [] trivial)
theorem ins_last (x : It) : ∀ out : List It, (∀ y ∈ out, y.key < x.key) → ins out x = out ++ [x]
  | [], _ => rfl
  | y :: r, h => by
    unfold ins
    rw [if_pos (h y (by simp)), ins_last x r (fun z hz => h z (by simp [hz]))]; rfl
theorem srt_take_asc {l : List It} (h : Asc l) : ∀ j, j ≤ l.length → srt (l.take j) = l.take j
  | 0, _ => by simp [srt]
  | j + 1, hj => by
    rw [srt_take (by omega), srt_take_asc h j (by omega), ins_last, ← take_snoc (by omega)]
    intro y hy
    obtain ⟨i, hi, rfl⟩ := mem_iat hy
    rw [List.length_take] at hi
    rw [iat_take (by omega)]
    exact h.mono (by omega) (by omega)
theorem srt_of_asc {l : List It} (h : Asc l) : srt l = l := by
  have := srt_take_asc h l.length (Nat.le_refl _)
  rwa [List.take_length] at this
/-- The item with a key. -/
def fnd (l : List It) (key : Int) : Option It := l.find? fun x => x.key == key
/-- r is the place of a key. -/
def Place (l : List It) (key : Int) (r : Nat) : Prop := r ≤ l.length ∧ (∀ j, r = j + 1 → (iat l j).key < key) ∧ (r < l.length → key ≤ (iat l r).key)
theorem Place.lt {l : List It} {key : Int} {r : Nat} (h : Place l key r) (ha : Asc l) {j : Nat} (hj : j < r) : (iat l j).key < key := by
  obtain ⟨h1, h2, _⟩ := h
  have h3 := h2 (r - 1) (by omega)
  by_cases e : j = r - 1
  · rw [e]; exact h3
  · have := ha.mono (show j < r - 1 by omega) (by omega)
    omega
theorem Place.ge {l : List It} {key : Int} {r : Nat} (h : Place l key r) (ha : Asc l) {j : Nat} (hj : r ≤ j) (hl : j < l.length) : key ≤ (iat l j).key := by
  have h3 := h.2.2 (by omega)
  by_cases e : j = r
  · rw [e]; exact h3
  · have := ha.mono (show r < j by omega) hl
    omega
theorem fnd_at {l : List It} {key : Int} : ∀ {r : Nat}, r < l.length → (iat l r).key = key → (∀ j, j < r → (iat l j).key ≠ key) → fnd l key = some (iat l r) := by
  induction l with
  | nil => intro r h; simp at h
  | cons x l ih =>
    intro r hr hk hn
    unfold fnd
    rw [List.find?_cons]
    cases r with
    | zero =>
      have : x.key = key := hk
      rw [show (x.key == key) = true from beq_iff_eq.2 this]; rfl
    | succ r =>
      have h0 : x.key ≠ key := hn 0 (by omega)
      rw [show (x.key == key) = false from beq_eq_false_iff_ne.2 h0]
      exact ih (r := r) (by simpa using hr) hk (fun j hj => hn (j + 1) (by omega))
theorem fnd_none {l : List It} {key : Int} (h : ∀ j, j < l.length → (iat l j).key ≠ key) : fnd l key = none := by
  unfold fnd
  rw [List.find?_eq_none]
  intro x hx
  obtain ⟨j, hj, rfl⟩ := mem_iat hx
  simpa using h j hj
theorem Place.found {l : List It} {key : Int} {r : Nat} (h : Place l key r) (ha : Asc l) (hr : r < l.length) (hk : (iat l r).key = key) : fnd l key = some (iat l r) :=
  fnd_at hr hk fun j hj => by have := h.lt ha hj; omega
theorem Place.not {l : List It} {key : Int} {r : Nat} (h : Place l key r) (ha : Asc l) (hk : r < l.length → (iat l r).key ≠ key) : fnd l key = none :=
  fnd_none fun j hj => by
    by_cases e : j < r
    · have := h.lt ha e; omega
    · by_cases e2 : j = r
      · rw [e2]; exact hk (by omega)
      · have h1 := h.2.2 (by omega)
        have h2 := ha.mono (show r < j by omega) hj
        omega
end Go.Proofs.YtenkeodfijladaaGreatDoor
