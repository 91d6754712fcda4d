/- symMerge of two sorted stretches, in plain Lean: the two short ways. No program here. -/
import Derived.Test.YtenkeodfijladaaGreatDoorSi
namespace Go.Proofs.YtenkeodfijladaaGreatDoor

theorem rot_out {d : List It} {s m e : Nat} (h1 : s ≤ m) (h2 : m ≤ e) (h3 : e ≤ d.length) {i : Nat} (hi : i < s ∨ e ≤ i) : iat (rot d s m e) i = iat d i := by
  have l1 : (d.take s).length = s := by rw [List.length_take]; omega
  have l2 : (seg d m e ++ seg d s m).length = e - s := by rw [List.length_append, seg_length h3, seg_length (by omega)]; omega
  unfold rot
  rcases hi with hi | hi
  · rw [List.append_assoc, iat_app_l (by omega), iat_take hi]
  · rw [iat_app_r (by rw [List.length_append, l1, l2]; omega), List.length_append, l1, l2, iat_drop]
    congr 1; omega
theorem rot_length {d : List It} {s m e : Nat} (h1 : s ≤ m) (h2 : m ≤ e) (h3 : e ≤ d.length) : (rot d s m e).length = d.length := by
  have l1 : (d.take s).length = s := by rw [List.length_take]; omega
  unfold rot
  rw [List.length_append, List.length_append, List.length_append, l1, seg_length h3, seg_length (by omega), List.length_drop]; omega
theorem rot_same {d : List It} {s e : Nat} (h1 : s ≤ e) : rot d s e e = d ∧ rot d s s e = d := by
  have e0 : ∀ x, seg d x x = [] := fun x => by unfold seg; rw [Nat.sub_self, List.take_zero]
  have p := parts (d := d) h1
  constructor <;> · unfold rot; rw [e0]; simpa using p.symm
theorem rot_down {d : List It} {a k : Nat} (h1 : a ≤ k) (h2 : k + 2 ≤ d.length) : swp2 (rot d a (a + 1) (k + 1)) k (k + 1) = rot d a (a + 1) (k + 2) := by
  have hl := rot_length (d := d) (s := a) (m := a + 1) (e := k + 1) (by omega) (by omega) (by omega)
  have hl2 := rot_length (d := d) (s := a) (m := a + 1) (e := k + 2) (by omega) (by omega) (by omega)
  refine list_ext (by rw [swp2_length, hl, hl2]) fun i _ => ?_
  rw [swp2_at (by rw [hl]; omega) (by rw [hl]; omega)]
  by_cases e1 : i = k + 1
  · rw [if_pos e1, rot_mid2 (by omega) (by omega) (by omega) (by omega) (by omega), rot_mid2 (by omega) (by omega) (by omega) (by omega) (by omega)]
    congr 1; omega
  · rw [if_neg e1]
    by_cases e2 : i = k
    · rw [if_pos e2, rot_out (by omega) (by omega) (by omega) (by omega), rot_mid1 (by omega) (by omega) (by omega) (by omega) (by omega)]
      congr 1; omega
    · rw [if_neg e2]
      by_cases e3 : i < a ∨ k + 2 ≤ i
      · rw [rot_out (by omega) (by omega) (by omega) (by omega), rot_out (by omega) (by omega) (by omega) (by omega)]
      · rw [rot_mid1 (by omega) (by omega) (by omega) (by omega) (by omega), rot_mid1 (by omega) (by omega) (by omega) (by omega) (by omega)]
theorem rot_up {d : List It} {k m : Nat} (h1 : k + 1 ≤ m) (h2 : m + 1 ≤ d.length) : swp2 (rot d (k + 1) m (m + 1)) (k + 1) k = rot d k m (m + 1) := by
  have hl := rot_length (d := d) (s := k + 1) (m := m) (e := m + 1) (by omega) (by omega) (by omega)
  have hl2 := rot_length (d := d) (s := k) (m := m) (e := m + 1) (by omega) (by omega) (by omega)
  refine list_ext (by rw [swp2_length, hl, hl2]) fun i _ => ?_
  rw [swp2_at (by rw [hl]; omega) (by rw [hl]; omega)]
  by_cases e1 : i = k
  · rw [if_pos e1, rot_mid1 (by omega) (by omega) (by omega) (by omega) (by omega), rot_mid1 (by omega) (by omega) (by omega) (by omega) (by omega)]
    congr 1; omega
  · rw [if_neg e1]
    by_cases e2 : i = k + 1
    · rw [if_pos e2, rot_out (by omega) (by omega) (by omega) (by omega), rot_mid2 (by omega) (by omega) (by omega) (by omega) (by omega)]
      congr 1; omega
    · rw [if_neg e2]
      by_cases e3 : i < k ∨ m + 1 ≤ i
      · rw [rot_out (by omega) (by omega) (by omega) (by omega), rot_out (by omega) (by omega) (by omega) (by omega)]
      · rw [rot_mid2 (by omega) (by omega) (by omega) (by omega) (by omega), rot_mid2 (by omega) (by omega) (by omega) (by omega) (by omega)]
        congr 1; omega
/-- data[a] put down into (m = a + 1) [m, b): the first i with key ≥. -/
theorem sym_one {d : List It} {a i b : Nat} (h1 : a + 1 ≤ i) (h2 : i ≤ b) (hb : b ≤ d.length) (nb : NdI d (a + 1) b)
    (H1 : ∀ j, a + 1 ≤ j → j < i → (iat d j).key < (iat d a).key) (H2 : ∀ j, i ≤ j → j < b → (iat d a).key ≤ (iat d j).key) :
    Moved d (rot d a (a + 1) i) a b ∧ NdI (rot d a (a + 1) i) a b := by
  have R := sym_rot (d := d) (a := a) (s := a) (m := a + 1) (e := i) (b := b) (c := a + (i - (a + 1))) (Nat.le_refl _) (by omega) h1 h2 hb rfl (fun x y x1 xy y1 => by omega) nb
    (fun x x1 x2 => by omega) (fun x x1 x2 j j1 j2 => (show x = a by omega) ▸ H1 j j1 j2)
  obtain ⟨m, n1, n2, n3, n4, hx⟩ := R
  refine ⟨m, fun x y x1 xy y2 => ?_⟩
  rcases Nat.lt_or_ge x (a + (i - (a + 1))) with xc | xc
  · rcases Nat.lt_or_ge y (a + (i - (a + 1))) with yc | yc
    · exact n2 x y x1 xy yc
    · exact hx x x1 xc y yc y2
  · have hxi : ∀ z, i ≤ z → iat (rot d a (a + 1) i) z = iat d z := fun z hz => (rot_moved (by omega) h1 (Nat.le_trans h2 hb) (fun p p1 p2 q q1 q2 => by
      obtain rfl : p = a := by omega
      have := H1 q q1 q2; omega)).out (Or.inr hz)
    rcases Nat.lt_or_ge x i with xi | xi
    · rcases Nat.lt_or_ge y i with yi | yi
      · omega
      · rw [hxi y yi, rot_mid2 (by omega) h1 (Nat.le_trans h2 hb) xc xi]
        have : a + (x - (a + (i - (a + 1)))) = a := by omega
        rw [this]; exact H2 y yi y2
    · exact n4 x y xi xy y2
/-- data[m] put up into [a, m) (b = m + 1): the first i with key >. -/
theorem sym_last {d : List It} {a i m : Nat} (h1 : a ≤ i) (h2 : i ≤ m) (hb : m + 1 ≤ d.length) (na : NdI d a m)
    (H1 : ∀ j, a ≤ j → j < i → (iat d j).key ≤ (iat d m).key) (H2 : ∀ j, i ≤ j → j < m → (iat d m).key < (iat d j).key) :
    Moved d (rot d i m (m + 1)) a (m + 1) ∧ NdI (rot d i m (m + 1)) a (m + 1) := by
  have R := sym_rot (d := d) (a := a) (s := i) (m := m) (e := m + 1) (b := m + 1) (c := i + 1) h1 h2 (by omega) (Nat.le_refl _) hb (by omega) na (fun x y x1 xy y1 => by omega)
    (fun x x1 x2 j j1 j2 => by omega) (fun x x1 x2 j j1 j2 => (show j = m by omega) ▸ H2 x x1 x2)
  obtain ⟨mv, n1, n2, n3, n4, hx⟩ := R
  refine ⟨mv, fun x y x1 xy y2 => ?_⟩
  rcases Nat.lt_or_ge x (i + 1) with xc | xc
  · rcases Nat.lt_or_ge y (i + 1) with yc | yc
    · rcases Nat.lt_or_ge y i with yi | yi
      · exact n1 x y x1 xy yi
      · obtain rfl : y = i := by omega
        have ho : iat (rot d y m (m + 1)) x = iat d x := (rot_moved h2 (by omega) hb (fun p p1 p2 q q1 q2 => by
          obtain rfl : q = m := by omega
          have := H2 p p1 p2; omega)).out (Or.inl (by omega))
        rw [ho, rot_mid1 h2 (by omega) hb (Nat.le_refl _) (by omega)]
        have : m + (y - y) = m := by omega
        rw [this]; exact H1 x x1 (by omega)
    · exact hx x x1 xc y yc y2
  · exact n3 x y xc xy y2
/-- What the search of symMerge has found. -/
structure Srch (d : List It) (a m b s : Nat) : Prop where
  lo : (if m > (a + b) / 2 then (a + b) / 2 + m - b else a) ≤ s
  hi : s ≤ (if m > (a + b) / 2 then (a + b) / 2 else m)
  l : (if m > (a + b) / 2 then (a + b) / 2 + m - b else a) < s → (iat d (s - 1)).key ≤ (iat d ((a + b) / 2 + m - s)).key
  r : s < (if m > (a + b) / 2 then (a + b) / 2 else m) → (iat d ((a + b) / 2 + m - 1 - s)).key < (iat d s).key
theorem Srch.ends {d : List It} {a m b s : Nat} (h : Srch d a m b s) : a ≤ s ∧ s ≤ m ∧ s ≤ (a + b) / 2 ∧ m ≤ (a + b) / 2 + m - s ∧ (a + b) / 2 + m - s ≤ b := by
  have := h.lo
  have := h.hi
  split at this <;> split at * <;> omega
theorem sym_gen {d : List It} {a m b s : Nat} (h : Srch d a m b s) (h1 : a < m) (h2 : m < b) (hb : b ≤ d.length) (na : NdI d a m) (nb : NdI d m b) :
    Moved d (rot d s m ((a + b) / 2 + m - s)) a b ∧ NdI (rot d s m ((a + b) / 2 + m - s)) a s ∧ NdI (rot d s m ((a + b) / 2 + m - s)) s ((a + b) / 2) ∧ NdI (rot d s m ((a + b) / 2 + m - s)) ((a + b) / 2) ((a + b) / 2 + m - s) ∧ NdI (rot d s m ((a + b) / 2 + m - s)) ((a + b) / 2 + m - s) b ∧
    ∀ i, a ≤ i → i < (a + b) / 2 → ∀ j, (a + b) / 2 ≤ j → j < b → (iat (rot d s m ((a + b) / 2 + m - s)) i).key ≤ (iat (rot d s m ((a + b) / 2 + m - s)) j).key := by
  obtain ⟨e1, e2, e3, e4, e5⟩ := h.ends
  have nle : ∀ {x y}, a ≤ x → x ≤ y → y < m → (iat d x).key ≤ (iat d y).key := fun {x y} x1 xy y1 => by
    rcases Nat.lt_or_ge x y with q | q
    · exact na x y x1 q y1
    · rw [show x = y by omega]; exact Int.le_refl _
  have mle : ∀ {x y}, m ≤ x → x ≤ y → y < b → (iat d x).key ≤ (iat d y).key := fun {x y} x1 xy y1 => by
    rcases Nat.lt_or_ge x y with q | q
    · exact nb x y x1 q y1
    · rw [show x = y by omega]; exact Int.le_refl _
  refine sym_rot e1 e2 e4 e5 hb (by omega) na nb (fun i i1 i2 j j1 j2 => ?_) (fun i i1 i2 j j1 j2 => ?_)
  · have hl := h.l
    by_cases q : (if m > (a + b) / 2 then (a + b) / 2 + m - b else a) < s
    · exact Int.le_trans (nle i1 (show i ≤ s - 1 by omega) (by omega)) (Int.le_trans (hl q) (mle e4 j1 j2))
    · exfalso; split at q <;> omega
  · have hr := h.r
    by_cases q : s < (if m > (a + b) / 2 then (a + b) / 2 else m)
    · exact Int.lt_of_le_of_lt (mle j1 (show j ≤ (a + b) / 2 + m - 1 - s by omega) (by omega)) (Int.lt_of_lt_of_le (hr q) (nle e1 i1 i2))
    · exfalso; split at q <;> omega
end Go.Proofs.YtenkeodfijladaaGreatDoor
