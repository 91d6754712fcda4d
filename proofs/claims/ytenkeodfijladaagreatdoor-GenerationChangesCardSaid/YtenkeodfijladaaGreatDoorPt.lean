/- Stable sorting of a list of items, in plain Lean: stretches, what a stable step keeps, rotations. No program here. -/
import Derived.Test.YtenkeodfijladaaGreatDoorPf
namespace Go.Proofs.YtenkeodfijladaaGreatDoor

/-- Of each key the same items in the same order. -/
def stb (d d' : List It) : Prop := ∀ k : Int, d.filter (fun y => y.key == k) = d'.filter (fun y => y.key == k)
theorem stb.refl (d : List It) : stb d d := fun _ => rfl
theorem stb.symm {d d' : List It} (h : stb d d') : stb d' d := fun k => (h k).symm
theorem stb.trans {a b c : List It} (h : stb a b) (h' : stb b c) : stb a c := fun k => (h k).trans (h' k)
theorem stb.app {a a' b b' : List It} (h : stb a a') (h' : stb b b') : stb (a ++ b) (a' ++ b') := fun k => by rw [List.filter_append, List.filter_append, h k, h' k]
theorem stb_swap {u v : List It} (h : ∀ x ∈ u, ∀ y ∈ v, x.key ≠ y.key) : stb (u ++ v) (v ++ u) := fun k => by
  rw [List.filter_append, List.filter_append]
  by_cases hu : u.filter (fun y => y.key == k) = []
  · rw [hu]; simp
  · obtain ⟨x, hx⟩ := List.exists_mem_of_ne_nil _ hu
    obtain ⟨hx1, hx2⟩ := List.mem_filter.1 hx
    have hv : v.filter (fun y => y.key == k) = [] := by
      rw [List.filter_eq_nil_iff]
      intro y hy e
      simp at hx2 e
      exact h x hx1 y hy (by omega)
    rw [hv]; simp
theorem stb.mem {d d' : List It} (h : stb d d') {x : It} (hx : x ∈ d) : x ∈ d' := by
  have : x ∈ d.filter (fun y => y.key == x.key) := List.mem_filter.2 ⟨hx, by simp⟩
  rw [h x.key] at this
  exact (List.mem_filter.1 this).1
theorem stb.len {d d' : List It} (h : stb d d') : d.length = d'.length := by
  have : d.Perm d' := by
    rw [List.perm_iff_count]
    intro x
    have e : ∀ l : List It, l.count x = (l.filter (fun y => y.key == x.key)).count x := fun l => by
      rw [List.count_filter (by simp)]
    rw [e d, e d', h x.key]
  exact this.length_eq
/-- A stretch. -/
def seg (d : List It) (a b : Nat) : List It := (d.drop a).take (b - a)
theorem seg_length {d : List It} {a b : Nat} (h : b ≤ d.length) : (seg d a b).length = b - a := by
  unfold seg; rw [List.length_take, List.length_drop]; omega
theorem seg_app {d : List It} {a b c : Nat} (h1 : a ≤ b) (h2 : b ≤ c) : seg d a c = seg d a b ++ seg d b c := by
  unfold seg
  rw [show c - a = (b - a) + (c - b) by omega, List.take_add, List.drop_drop, show a + (b - a) = b by omega]
theorem parts {d : List It} {a b : Nat} (h1 : a ≤ b) : d = d.take a ++ seg d a b ++ d.drop b := by
  have : d.drop b = (d.drop a).drop (b - a) := by rw [List.drop_drop]; congr 1; omega
  unfold seg
  rw [this, List.append_assoc, List.take_append_drop, List.take_append_drop]
theorem seg_mem {d : List It} {a b : Nat} (h : b ≤ d.length) {x : It} : x ∈ seg d a b ↔ ∃ j, a ≤ j ∧ j < b ∧ iat d j = x := by
  unfold seg
  constructor
  · intro hx
    obtain ⟨j, hj, rfl⟩ := mem_iat hx
    rw [List.length_take, List.length_drop] at hj
    exact ⟨a + j, by omega, by omega, by rw [iat_take (by omega), iat_drop]⟩
  · rintro ⟨j, h1, h2, rfl⟩
    have : iat d j = iat ((d.drop a).take (b - a)) (j - a) := by
      rw [iat_take (by omega), iat_drop]; congr 1; omega
    rw [this]
    have hl : j - a < ((d.drop a).take (b - a)).length := by rw [List.length_take, List.length_drop]; omega
    rw [← iat_get hl]
    exact List.getElem_mem hl
/-- Only the stretch from a to b was turned, stably. -/
structure Moved (d d' : List It) (a b : Nat) : Prop where
  lo : d'.take a = d.take a
  hi : d'.drop b = d.drop b
  mid : stb (seg d a b) (seg d' a b)
  len : d'.length = d.length
theorem Moved.refl (d : List It) (a b : Nat) : Moved d d a b := ⟨rfl, rfl, .refl _, rfl⟩
theorem Moved.trans {d d' e : List It} {a b : Nat} (h : Moved d d' a b) (h' : Moved d' e a b) : Moved d e a b :=
  ⟨h'.lo.trans h.lo, h'.hi.trans h.hi, h.mid.trans h'.mid, h'.len.trans h.len⟩
theorem take_take_of {d d' : List It} {a a' : Nat} (h : a ≤ a') (e : d'.take a' = d.take a') : d'.take a = d.take a := by
  have := congrArg (List.take a) e
  rwa [List.take_take, List.take_take, Nat.min_eq_left h] at this
theorem drop_drop_of {d d' : List It} {b b' : Nat} (h : b' ≤ b) (e : d'.drop b' = d.drop b') : d'.drop b = d.drop b := by
  have := congrArg (List.drop (b - b')) e
  rwa [List.drop_drop, List.drop_drop, show b' + (b - b') = b by omega] at this
theorem seg_take {d d' : List It} {a a' : Nat} (e : d'.take a' = d.take a') : seg d' a a' = seg d a a' := by
  unfold seg
  have h1 : ∀ l : List It, (l.drop a).take (a' - a) = (l.take a').drop a := fun l => by rw [List.drop_take]
  rw [h1, h1, e]
theorem seg_drop {d d' : List It} {b' b : Nat} (e : d'.drop b' = d.drop b') : seg d' b' b = seg d b' b := by
  unfold seg; rw [e]
theorem Moved.wide {d d' : List It} {a b a' b' : Nat} (h : Moved d d' a' b') (h1 : a ≤ a') (h2 : a' ≤ b') (h3 : b' ≤ b) : Moved d d' a b :=
  ⟨take_take_of h1 h.lo, drop_drop_of h3 h.hi, by
    rw [seg_app (d := d) h1 (Nat.le_trans h2 h3), seg_app (d := d') h1 (Nat.le_trans h2 h3), seg_app (d := d) h2 h3, seg_app (d := d') h2 h3, seg_take h.lo, seg_drop h.hi]
    exact (stb.refl _).app (h.mid.app (.refl _)), h.len⟩
theorem Moved.stb {d d' : List It} {a b : Nat} (h : Moved d d' a b) (hab : a ≤ b) : stb d d' := by
  rw [parts (d := d) hab, parts (d := d') hab, h.lo, h.hi]
  exact (Go.Proofs.YtenkeodfijladaaGreatDoor.stb.app (.app (.refl _) h.mid) (.refl _))
theorem Moved.out {d d' : List It} {a b : Nat} (h : Moved d d' a b) {i : Nat} (hi : i < a ∨ b ≤ i) : iat d' i = iat d i := by
  rcases hi with hi | hi
  · rw [← iat_take (l := d') hi, h.lo, iat_take hi]
  · have e : ∀ l : List It, iat l i = iat (l.drop b) (i - b) := fun l => by rw [iat_drop]; congr 1; omega
    rw [e d', h.hi, ← e d]
theorem Moved.src {d d' : List It} {a b : Nat} (h : Moved d d' a b) (hb : b ≤ d.length) {i : Nat} (h1 : a ≤ i) (h2 : i < b) : ∃ j, a ≤ j ∧ j < b ∧ iat d' i = iat d j := by
  have hm : iat d' i ∈ seg d' a b := (seg_mem (by rw [h.len]; exact hb)).2 ⟨i, h1, h2, rfl⟩
  obtain ⟨j, h3, h4, h5⟩ := (seg_mem hb).1 (h.mid.symm.mem hm)
  exact ⟨j, h3, h4, h5.symm⟩
/-- The keys of the stretch do not fall. -/
def NdI (d : List It) (a b : Nat) : Prop := ∀ i j, a ≤ i → i < j → j < b → (iat d i).key ≤ (iat d j).key
/-- The stretches from s to m and from m to e, changed. -/
def rot (d : List It) (s m e : Nat) : List It := d.take s ++ (seg d m e ++ seg d s m) ++ d.drop e
theorem rot_moved {d : List It} {s m e : Nat} (h1 : s ≤ m) (h2 : m ≤ e) (h3 : e ≤ d.length) (hk : ∀ i, s ≤ i → i < m → ∀ j, m ≤ j → j < e → (iat d i).key ≠ (iat d j).key) : Moved d (rot d s m e) s e := by
  have l1 : (d.take s).length = s := by rw [List.length_take]; omega
  have l2 : (seg d m e ++ seg d s m).length = e - s := by rw [List.length_append, seg_length h3, seg_length (by omega)]; omega
  have hse : s ≤ e := by omega
  have e1 : (rot d s m e).take s = d.take s := by unfold rot; rw [List.append_assoc]; exact List.take_left' l1
  have e2 : (rot d s m e).drop e = d.drop e := by unfold rot; exact List.drop_left' (by rw [List.length_append, l1, l2]; omega)
  have e3 : seg (rot d s m e) s e = seg d m e ++ seg d s m := by
    have hr : rot d s m e = d.take s ++ ((seg d m e ++ seg d s m) ++ d.drop e) := by unfold rot; rw [List.append_assoc]
    show ((rot d s m e).drop s).take (e - s) = _
    rw [hr, List.drop_left' l1]
    exact List.take_left' l2
  refine ⟨e1, e2, ?_, ?_⟩
  · rw [e3, seg_app h1 h2]
    refine stb_swap fun x hx y hy => ?_
    obtain ⟨i, i1, i2, rfl⟩ := (seg_mem (by omega)).1 hx
    obtain ⟨j, j1, j2, rfl⟩ := (seg_mem h3).1 hy
    exact hk i i1 i2 j j1 j2
  · unfold rot
    rw [List.length_append, List.length_append, l1, l2, List.length_drop]; omega
theorem iat_app_l {u v : List It} {i : Nat} (h : i < u.length) : iat (u ++ v) i = iat u i := by
  unfold iat
  rw [List.getD_eq_getElem?_getD, List.getD_eq_getElem?_getD, List.getElem?_append_left h]
theorem iat_app_r {u v : List It} {i : Nat} (h : u.length ≤ i) : iat (u ++ v) i = iat v (i - u.length) := by
  unfold iat
  rw [List.getD_eq_getElem?_getD, List.getD_eq_getElem?_getD, List.getElem?_append_right h]
theorem iat_seg {d : List It} {a b i : Nat} (h : i < b - a) : iat (seg d a b) i = iat d (a + i) := by
  unfold seg; rw [iat_take h, iat_drop]
theorem rot_mid1 {d : List It} {s m e : Nat} (h1 : s ≤ m) (h2 : m ≤ e) (h3 : e ≤ d.length) {i : Nat} (i1 : s ≤ i) (i2 : i < s + (e - m)) : iat (rot d s m e) i = iat d (m + (i - s)) := by
  have l1 : (d.take s).length = s := by rw [List.length_take]; omega
  have l3 : (seg d m e).length = e - m := seg_length h3
  have l4 : (seg d s m).length = m - s := seg_length (by omega)
  unfold rot
  rw [iat_app_l (by rw [List.length_append, List.length_append, l1, l3, l4]; omega), iat_app_r (by omega), l1, iat_app_l (by omega), iat_seg (by omega)]
theorem rot_mid2 {d : List It} {s m e : Nat} (h1 : s ≤ m) (h2 : m ≤ e) (h3 : e ≤ d.length) {i : Nat} (i1 : s + (e - m) ≤ i) (i2 : i < e) : iat (rot d s m e) i = iat d (s + (i - (s + (e - m)))) := by
  have l1 : (d.take s).length = s := by rw [List.length_take]; omega
  have l3 : (seg d m e).length = e - m := seg_length h3
  have l4 : (seg d s m).length = m - s := seg_length (by omega)
  unfold rot
  rw [iat_app_l (by rw [List.length_append, List.length_append, l1, l3, l4]; omega), iat_app_r (by omega), l1, iat_app_r (by omega), l3, iat_seg (by omega)]
  congr 2; omega
/-- Two stretches of which the left is nowhere above the right, sorted each for itself. -/
theorem join_nd {d d2 d3 : List It} {a c b : Nat} (h1 : a ≤ c) (h2 : c ≤ b) (hb : b ≤ d.length) (m2 : Moved d d2 a c) (n2 : NdI d2 a c) (m3 : Moved d2 d3 c b) (n3 : NdI d3 c b)
    (hx : ∀ i, a ≤ i → i < c → ∀ j, c ≤ j → j < b → (iat d i).key ≤ (iat d j).key) : Moved d d3 a b ∧ NdI d3 a b := by
  refine ⟨(m2.wide (Nat.le_refl _) h1 h2).trans (m3.wide h1 h2 (Nat.le_refl _)), fun i j i1 ij j2 => ?_⟩
  rcases Nat.lt_or_ge i c with hic | hic
  · rw [m3.out (Or.inl hic)]
    rcases Nat.lt_or_ge j c with hjc | hjc
    · rw [m3.out (Or.inl hjc)]; exact n2 i j i1 ij hjc
    · obtain ⟨i', i3, i4, e1⟩ := m2.src (by omega) i1 hic
      obtain ⟨j', j3, j4, e2⟩ := m3.src (by rw [m2.len]; omega) hjc j2
      rw [e1, e2, m2.out (Or.inr j3)]
      exact hx i' i3 i4 j' j3 j4
  · exact n3 i j hic ij j2
/-- What the rotation of symMerge leaves: four stretches, the left two nowhere above the right two. -/
theorem sym_rot {d : List It} {a s m e b c : Nat} (h0 : a ≤ s) (h1 : s ≤ m) (h2 : m ≤ e) (h3 : e ≤ b) (hb : b ≤ d.length) (hc : c = s + (e - m)) (na : NdI d a m) (nb : NdI d m b)
    (H1 : ∀ i, a ≤ i → i < s → ∀ j, e ≤ j → j < b → (iat d i).key ≤ (iat d j).key) (H2 : ∀ i, s ≤ i → i < m → ∀ j, m ≤ j → j < e → (iat d j).key < (iat d i).key) :
    Moved d (rot d s m e) a b ∧ NdI (rot d s m e) a s ∧ NdI (rot d s m e) s c ∧ NdI (rot d s m e) c e ∧ NdI (rot d s m e) e b ∧
    ∀ i, a ≤ i → i < c → ∀ j, c ≤ j → j < b → (iat (rot d s m e) i).key ≤ (iat (rot d s m e) j).key := by
  subst hc
  have M := rot_moved h1 h2 (Nat.le_trans h3 hb) (fun i i1 i2 j j1 j2 => by have := H2 i i1 i2 j j1 j2; omega)
  have o : ∀ {i}, i < s ∨ e ≤ i → iat (rot d s m e) i = iat d i := fun h => M.out h
  have r1 : ∀ {i}, s ≤ i → i < s + (e - m) → iat (rot d s m e) i = iat d (m + (i - s)) := fun i1 i2 => rot_mid1 h1 h2 (Nat.le_trans h3 hb) i1 i2
  have r2 : ∀ {i}, s + (e - m) ≤ i → i < e → iat (rot d s m e) i = iat d (s + (i - (s + (e - m)))) := fun i1 i2 => rot_mid2 h1 h2 (Nat.le_trans h3 hb) i1 i2
  refine ⟨M.wide h0 (by omega) h3, fun i j i1 ij j2 => ?_, fun i j i1 ij j2 => ?_, fun i j i1 ij j2 => ?_, fun i j i1 ij j2 => ?_, fun i i1 i2 j j1 j2 => ?_⟩
  · rw [o (Or.inl (by omega)), o (Or.inl j2)]; exact na i j i1 ij (by omega)
  · rw [r1 i1 (by omega), r1 (by omega) j2]; exact nb _ _ (by omega) (by omega) (by omega)
  · rw [r2 i1 (by omega), r2 (by omega) j2]; exact na _ _ (by omega) (by omega) (by omega)
  · rw [o (Or.inr i1), o (Or.inr (by omega))]; exact nb i j (by omega) ij j2
  · rcases Nat.lt_or_ge i s with is | is
    · rw [o (Or.inl is)]
      rcases Nat.lt_or_ge j e with je | je
      · rw [r2 j1 je]; exact na _ _ i1 (by omega) (by omega)
      · rw [o (Or.inr je)]; exact H1 i i1 is j je j2
    · rw [r1 is i2]
      rcases Nat.lt_or_ge j e with je | je
      · rw [r2 j1 je]; exact Int.le_of_lt (H2 _ (by omega) (by omega) _ (by omega) (by omega))
      · rw [o (Or.inr je)]; exact nb _ _ (by omega) (by omega) j2
end Go.Proofs.YtenkeodfijladaaGreatDoor
