/- Exchanges in a list of items, in plain Lean. No program here. -/
import Derived.Test.YtenkeodfijladaaGreatDoorSw
namespace Go.Proofs.YtenkeodfijladaaGreatDoor

theorem iat_set {d : List It} {i : Nat} {x : It} (hi : i < d.length) (j : Nat) : iat (d.set i x) j = if j = i then x else iat d j := by
  unfold iat
  rw [List.getD_eq_getElem?_getD, List.getD_eq_getElem?_getD, List.getElem?_set]
  by_cases h : j = i
  · subst h; rw [if_pos rfl, if_pos rfl, if_pos hi]; rfl
  · rw [if_neg (Ne.symm h), if_neg h]
theorem swp2_at {d : List It} {i j : Nat} (hi : i < d.length) (hj : j < d.length) (k : Nat) : iat (swp2 d i j) k = if k = j then iat d i else if k = i then iat d j else iat d k := by
  unfold swp2
  rw [iat_set (by rw [List.length_set]; exact hj), iat_set hi]
theorem swpN_at {d : List It} {a b : Nat} : ∀ (k : Nat), a + k ≤ b → b + k ≤ d.length → ∀ i, iat (swpN d a b k) i = if a ≤ i ∧ i < a + k then iat d (i - a + b) else if b ≤ i ∧ i < b + k then iat d (i - b + a) else iat d i
  | 0, _, _, i => by rw [if_neg (by omega), if_neg (by omega)]; rfl
  | k + 1, h1, h2, i => by
    have ih := swpN_at (d := d) (a := a) (b := b) k (by omega) (by omega)
    show iat (swp2 (swpN d a b k) (a + k) (b + k)) i = _
    rw [swp2_at (by rw [swpN_length]; omega) (by rw [swpN_length]; omega)]
    by_cases e1 : i = b + k
    · subst e1
      rw [if_pos rfl, ih, if_neg (by omega), if_neg (by omega), if_neg (by omega), if_pos (by omega)]
      congr 1; omega
    · rw [if_neg e1]
      by_cases e2 : i = a + k
      · subst e2
        rw [if_pos rfl, ih, if_neg (by omega), if_neg (by omega), if_pos (by omega)]
        congr 1; omega
      · rw [if_neg e2, ih]
        by_cases c1 : a ≤ i ∧ i < a + k
        · rw [if_pos c1, if_pos (by omega)]
        · rw [if_neg c1, if_neg (show ¬ (a ≤ i ∧ i < a + (k + 1)) by omega)]
          by_cases c2 : b ≤ i ∧ i < b + k
          · rw [if_pos c2, if_pos (by omega)]
          · rw [if_neg c2, if_neg (show ¬ (b ≤ i ∧ i < b + (k + 1)) by omega)]
theorem list_ext {u v : List It} (hl : u.length = v.length) (h : ∀ i, i < u.length → iat u i = iat v i) : u = v := by
  apply List.ext_getElem hl
  intro i h1 h2
  rw [iat_get h1, iat_get h2]; exact h i h1
/-- Two blocks of one length, changed. -/
theorem swpN_blocks {P X Y Z Q : List It} (h : X.length = Z.length) : swpN (P ++ (X ++ (Y ++ (Z ++ Q)))) P.length (P.length + X.length + Y.length) X.length = P ++ (Z ++ (Y ++ (X ++ Q))) := by
  refine list_ext (by rw [swpN_length]; simp only [List.length_append]; omega) fun i hi => ?_
  rw [swpN_length] at hi
  simp only [List.length_append] at hi
  rw [swpN_at _ (by omega) (by simp only [List.length_append]; omega)]
  by_cases p1 : i < P.length
  · rw [if_neg (by omega), if_neg (by omega), iat_app_l p1, iat_app_l p1]
  · by_cases p2 : i < P.length + X.length
    · rw [if_pos (by omega), iat_app_r (u := P) (by omega), iat_app_r (u := X) (by omega), iat_app_r (u := Y) (by omega), iat_app_l (u := Z) (by omega), iat_app_r (u := P) (by omega), iat_app_l (u := Z) (by omega)]
      congr 1; omega
    · by_cases p3 : i < P.length + X.length + Y.length
      · rw [if_neg (by omega), if_neg (by omega), iat_app_r (u := P) (by omega), iat_app_r (u := X) (by omega), iat_app_l (u := Y) (by omega), iat_app_r (u := P) (by omega), iat_app_r (u := Z) (by omega), iat_app_l (u := Y) (by omega)]
        congr 1; omega
      · by_cases p4 : i < P.length + X.length + Y.length + Z.length
        · rw [if_neg (by omega), if_pos (by omega), iat_app_r (u := P) (by omega), iat_app_l (u := X) (by omega), iat_app_r (u := P) (by omega), iat_app_r (u := Z) (by omega), iat_app_r (u := Y) (by omega), iat_app_l (u := X) (by omega)]
          congr 1; omega
        · rw [if_neg (by omega), if_neg (by omega), iat_app_r (u := P) (by omega), iat_app_r (u := X) (by omega), iat_app_r (u := Y) (by omega), iat_app_r (u := Z) (by omega), iat_app_r (u := P) (by omega), iat_app_r (u := Z) (by omega), iat_app_r (u := Y) (by omega), iat_app_r (u := X) (by omega)]
          congr 1; omega
end Go.Proofs.YtenkeodfijladaaGreatDoor
