/- Finding, putting, dropping in an ascending list, in plain Lean. No program here. -/
import Derived.Test.YtenkeodfijladaaGreatDoorPs
namespace Go.Proofs.YtenkeodfijladaaGreatDoor

def drp (l : List It) (key : Int) : List It := l.filter fun y => !(y.key == key)
theorem fnd_cons (y : It) (r : List It) (key : Int) : fnd (y :: r) key = if y.key = key then some y else fnd r key := by
  unfold fnd
  rw [List.find?_cons]
  by_cases h : y.key = key
  · rw [if_pos h, show (y.key == key) = true from beq_iff_eq.2 h]
  · rw [if_neg h, show (y.key == key) = false from beq_eq_false_iff_ne.2 h]
theorem fnd_ins_self (x : It) : ∀ l : List It, fnd (ins l x) x.key = some x
  | [] => by rw [show ins [] x = [x] from rfl, fnd_cons, if_pos rfl]
  | y :: r => by
    unfold ins
    split
    · rw [fnd_cons, if_neg (by omega)]; exact fnd_ins_self x r
    · split <;> rw [fnd_cons, if_pos rfl]
theorem fnd_ins_other (x : It) (key : Int) (h : key ≠ x.key) : ∀ l : List It, fnd (ins l x) key = fnd l key
  | [] => by rw [show ins [] x = [x] from rfl, fnd_cons, if_neg (Ne.symm h)]
  | y :: r => by
    have ih := fnd_ins_other x key h r
    unfold ins
    split
    · rw [fnd_cons, fnd_cons, ih]
    · split
      · rw [fnd_cons, fnd_cons, if_neg (Ne.symm h), if_neg (by omega)]
      · rw [fnd_cons, if_neg (Ne.symm h)]
theorem ins_ins (x : It) : ∀ l : List It, ins (ins l x) x = ins l x
  | [] => by simp [ins]
  | y :: r => by
    have ih := ins_ins x r
    by_cases h1 : y.key < x.key
    · have e : ins (y :: r) x = y :: ins r x := by simp only [ins]; rw [if_pos h1]
      rw [e]
      simp only [ins]
      rw [if_pos h1, ih]
    · by_cases h2 : y.key = x.key
      · have e : ins (y :: r) x = x :: r := by simp only [ins]; rw [if_neg h1, if_pos h2]
        rw [e]
        simp only [ins]
        rw [if_neg (by omega), if_pos trivial]
      · have e : ins (y :: r) x = x :: y :: r := by simp only [ins]; rw [if_neg h1, if_neg h2]
        rw [e]
        simp only [ins]
        rw [if_neg (by omega), if_pos trivial]
theorem fnd_drp_self (l : List It) (key : Int) : fnd (drp l key) key = none := by
  unfold fnd drp
  rw [List.find?_eq_none]
  intro x hx
  have := (List.mem_filter.1 hx).2
  simp at this ⊢
  exact this
theorem fnd_drp_other (k key : Int) (h : key ≠ k) : ∀ l : List It, fnd (drp l k) key = fnd l key
  | [] => rfl
  | y :: r => by
    have ih := fnd_drp_other k key h r
    unfold drp at ih ⊢
    rw [List.filter_cons]
    by_cases e : y.key = k
    · rw [if_neg (by simp [e]), fnd_cons, if_neg (by omega), ih]
    · rw [if_pos (by simp [e]), fnd_cons, fnd_cons, ih]
theorem iat_get {l : List It} {r : Nat} (h : r < l.length) : l[r] = iat l r := by
  unfold iat; rw [List.getD_eq_getElem?_getD, List.getElem?_eq_getElem h]; rfl
theorem ascR_pw : ∀ {l : List It}, AscR l → l.Pairwise fun a b => a.key < b.key
  | [], _ => .nil
  | x :: r, h => by
    have hp := ascR_pw h.tail
    refine .cons (fun y hy => ?_) hp
    cases r with
    | nil => cases hy
    | cons z r =>
      have hz : x.key < z.key := h.1
      cases hy with
      | head => exact hz
      | tail _ hy => have := (List.pairwise_cons.1 hp).1 y hy; omega
theorem pw_ascR : ∀ {l : List It}, (l.Pairwise fun a b => a.key < b.key) → AscR l
  | [], _ => trivial
  | [x], _ => trivial
  | x :: y :: r, h => ⟨(List.pairwise_cons.1 h).1 y (by simp), pw_ascR (List.pairwise_cons.1 h).2⟩
theorem drp_asc {l : List It} (h : Asc l) (key : Int) : Asc (drp l key) :=
  (ascR_iff _).1 (pw_ascR (List.Pairwise.filter _ (ascR_pw ((ascR_iff _).2 h))))
theorem ins_ascA {l : List It} (h : Asc l) (x : It) : Asc (ins l x) := (ascR_iff _).1 (ins_asc x l ((ascR_iff _).2 h))
theorem drp_length (l : List It) (key : Int) : (drp l key).length ≤ l.length := List.length_filter_le _ _
theorem ins_at {l : List It} {x : It} {r : Nat} (h : Place l x.key r) (ha : Asc l) : ins l x = if r < l.length ∧ (iat l r).key = x.key then l.set r x else l.take r ++ x :: l.drop r := by
  have := ins_eq l x r h.1 (fun j hj => h.lt ha hj) (fun hr => h.2.2 hr)
  rw [this]
  split
  · rename_i hc
    rw [List.set_eq_take_append_cons_drop, if_pos hc.1]
  · rfl
theorem drp_place {l : List It} {key : Int} {r : Nat} (h : Place l key r) (ha : Asc l) : drp l key = if r < l.length ∧ (iat l r).key = key then l.take r ++ l.drop (r + 1) else l := by
  have hnot : ∀ (q : List It), (∀ x ∈ q, x.key ≠ key) → drp q key = q := fun q hq => by
    unfold drp
    rw [List.filter_eq_self]
    intro x hx
    simp
    exact hq x hx
  have pw := ascR_pw ((ascR_iff _).2 ha)
  split
  · rename_i hc
    have e : l = l.take r ++ iat l r :: l.drop (r + 1) := by
      have e1 : l.drop r = iat l r :: l.drop (r + 1) := by
        rw [List.drop_eq_getElem_cons hc.1, iat_get hc.1]
      rw [← e1, List.take_append_drop]
    have pw2 := pw
    rw [e, List.pairwise_append] at pw2
    obtain ⟨_, p2, p3⟩ := pw2
    have h1 : drp (l.take r) key = l.take r := hnot _ fun y hy => by have := p3 y hy (iat l r) (by simp); omega
    have h2 : drp (l.drop (r + 1)) key = l.drop (r + 1) := hnot _ fun y hy => by have := (List.pairwise_cons.1 p2).1 y hy; omega
    conv => lhs; rw [e]
    unfold drp at h1 h2 ⊢
    rw [List.filter_append, h1, List.filter_cons, if_neg (by simp [hc.2]), h2]
  · rename_i hc
    refine hnot _ fun y hy => ?_
    obtain ⟨j, hj, rfl⟩ := mem_iat hy
    rcases Nat.lt_or_ge j r with hjr | hjr
    · have := h.lt ha hjr; omega
    · by_cases hjr2 : j = r
      · subst hjr2; exact fun e => hc ⟨hj, e⟩
      · have h1 := h.2.2 (by omega)
        have h2 : (iat l r).key < (iat l j).key := by
          have := List.pairwise_iff_getElem.1 pw r j (by omega) hj (by omega)
          rw [iat_get, iat_get] at this
          exact this
        omega
end Go.Proofs.YtenkeodfijladaaGreatDoor
