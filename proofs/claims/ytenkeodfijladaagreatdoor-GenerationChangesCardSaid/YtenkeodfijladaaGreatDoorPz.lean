/- Stable sorting by blocks, and the last item of each key of a sorted list, in plain Lean. No program here. -/
import Derived.Test.YtenkeodfijladaaGreatDoorPy
namespace Go.Proofs.YtenkeodfijladaaGreatDoor

/-- Of two neighbours with one key the last one stays. -/
def lstR : List It → List It
  | [] => []
  | [x] => [x]
  | x :: y :: r => if y.key = x.key then lstR (y :: r) else x :: lstR (y :: r)
/-- The keys do not fall. -/
def NdL (d : List It) : Prop := d.Pairwise fun a b => a.key ≤ b.key
theorem ndL_of {d : List It} (h : NdI d 0 d.length) : NdL d := by
  refine List.pairwise_iff_getElem.2 fun i j hi hj hij => ?_
  rw [iat_get hi, iat_get hj]
  exact h i j (Nat.zero_le _) hij hj
theorem fnd_nil (k : Int) : fnd [] k = none := rfl
theorem last_cons (x : It) {f : List It} (h : f ≠ []) : (x :: f).getLast? = f.getLast? := by
  cases f with
  | nil => exact absurd rfl h
  | cons y f => rw [List.getLast?_cons_cons]
theorem fnd_lstR : ∀ (d : List It), NdL d → ∀ k : Int, fnd (lstR d) k = (d.filter fun y => y.key == k).getLast?
  | [], _, k => rfl
  | [x], _, k => by
    unfold lstR
    rw [fnd_cons, List.filter_cons]
    by_cases h : x.key = k
    · rw [if_pos h, if_pos (by simp [h])]; rfl
    · rw [if_neg h, if_neg (by simp [h])]; rfl
  | x :: y :: r, hp, k => by
    obtain ⟨h1, h2⟩ := List.pairwise_cons.1 hp
    have ih := fnd_lstR (y :: r) h2 k
    unfold lstR
    rw [List.filter_cons]
    by_cases e : y.key = x.key
    · rw [if_pos e, ih]
      by_cases hk : x.key = k
      · rw [if_pos (by simp [hk]), last_cons]
        intro h0
        have : y ∈ (y :: r).filter fun y => y.key == k := List.mem_filter.2 ⟨by simp, by simp; omega⟩
        rw [h0] at this; cases this
      · rw [if_neg (by simp [hk])]
    · rw [if_neg e, fnd_cons]
      by_cases hk : x.key = k
      · rw [if_pos hk, if_pos (by simp [hk])]
        have h0 : (y :: r).filter (fun y => y.key == k) = [] := by
          rw [List.filter_eq_nil_iff]
          intro z hz
          have hxy := h1 y (by simp)
          have hyz : y.key ≤ z.key := by
            rcases List.mem_cons.1 hz with rfl | hz
            · exact Int.le_refl _
            · exact (List.pairwise_cons.1 h2).1 z hz
          simp; omega
        rw [h0]; rfl
      · rw [if_neg hk, if_neg (by simp [hk]), ih]
theorem lstR_sub : ∀ (d : List It), ∀ z ∈ lstR d, z ∈ d
  | [], _, h => h
  | [x], z, h => h
  | x :: y :: r, z, h => by
    unfold lstR at h
    split at h
    · exact List.mem_cons_of_mem _ (lstR_sub (y :: r) z h)
    · rcases List.mem_cons.1 h with rfl | h
      · simp
      · exact List.mem_cons_of_mem _ (lstR_sub (y :: r) z h)
theorem lstR_asc : ∀ (d : List It), NdL d → (lstR d).Pairwise fun a b => a.key < b.key
  | [], _ => .nil
  | [x], _ => .cons (fun _ h => by cases h) .nil
  | x :: y :: r, hp => by
    obtain ⟨h1, h2⟩ := List.pairwise_cons.1 hp
    have ih := lstR_asc (y :: r) h2
    unfold lstR
    split
    · exact ih
    · rename_i e
      refine .cons (fun z hz => ?_) ih
      have hz := lstR_sub _ z hz
      have hxy := h1 y (by simp)
      rcases List.mem_cons.1 hz with rfl | hz
      · omega
      · have := (List.pairwise_cons.1 h2).1 z hz; omega
theorem fnd_some_mem {l : List It} {k : Int} {x : It} (h : fnd l k = some x) : x ∈ l ∧ x.key = k := by
  unfold fnd at h
  exact ⟨List.mem_of_find?_eq_some h, by simpa using List.find?_some h⟩
theorem fnd_none_of {l : List It} {k : Int} (h : ∀ x ∈ l, x.key ≠ k) : fnd l k = none := by
  unfold fnd
  rw [List.find?_eq_none]
  intro x hx; simpa using h x hx
/-- Two ascending lists with the same item for each key are one list. -/
theorem asc_ext : ∀ (u v : List It), (u.Pairwise fun a b => a.key < b.key) → (v.Pairwise fun a b => a.key < b.key) → (∀ k, fnd u k = fnd v k) → u = v
  | [], [], _, _, _ => rfl
  | [], y :: v, _, _, h => by
    have := h y.key
    rw [fnd_nil, fnd_cons, if_pos rfl] at this; cases this
  | x :: u, [], _, _, h => by
    have := h x.key
    rw [fnd_nil, fnd_cons, if_pos rfl] at this; cases this
  | x :: u, y :: v, hu, hv, h => by
    obtain ⟨u1, u2⟩ := List.pairwise_cons.1 hu
    obtain ⟨v1, v2⟩ := List.pairwise_cons.1 hv
    have hx := h x.key
    rw [fnd_cons, if_pos rfl] at hx
    have hy := h y.key
    rw [fnd_cons (y := y), if_pos rfl] at hy
    have m1 := fnd_some_mem hx.symm
    have m2 := fnd_some_mem hy
    have e : x.key = y.key := by
      rcases List.mem_cons.1 m1.1 with e | m1
      · rw [e]
      · have := v1 _ m1
        rcases List.mem_cons.1 m2.1 with e | m2
        · rw [e]
        · have := u1 _ m2; omega
    have exy : x = y := by
      rw [fnd_cons, if_pos e.symm] at hx
      exact Option.some.inj hx
    subst exy
    congr 1
    refine asc_ext u v u2 v2 fun k => ?_
    by_cases hk : x.key = k
    · rw [fnd_none_of fun z hz => by have := u1 z hz; omega, fnd_none_of fun z hz => by have := v1 z hz; omega]
    · have := h k
      rwa [fnd_cons, fnd_cons, if_neg hk, if_neg hk] at this
theorem fnd_foldl : ∀ (l out : List It) (k : Int), fnd (l.foldl ins out) k = match (l.filter fun y => y.key == k).getLast? with | some x => some x | none => fnd out k
  | [], out, k => rfl
  | x :: l, out, k => by
    rw [List.foldl_cons, fnd_foldl l (ins out x) k, List.filter_cons]
    by_cases h : x.key = k
    · rw [if_pos (by simp [h])]
      by_cases h0 : l.filter (fun y => y.key == k) = []
      · rw [h0]
        show fnd (ins out x) k = some x
        rw [← h]; exact fnd_ins_self x out
      · rw [last_cons x h0]
        cases e : (l.filter fun y => y.key == k).getLast? with
        | none => rw [List.getLast?_eq_none_iff] at e; exact absurd e h0
        | some y => rfl
    · rw [if_neg (by simp [h]), fnd_ins_other x k (Ne.symm h)]
theorem fnd_srt (l : List It) (k : Int) : fnd (srt l) k = (l.filter fun y => y.key == k).getLast? := by
  unfold srt
  rw [fnd_foldl]
  cases (l.filter fun y => y.key == k).getLast? <;> rfl
/-- What stays of a stably sorted list is the sorted list. -/
theorem lstR_srt {l d : List It} (h : stb l d) (hn : NdI d 0 d.length) : lstR d = srt l := by
  have hp := ndL_of hn
  refine asc_ext _ _ (lstR_asc d hp) (ascR_pw ((ascR_iff _).2 (srt_asc l))) fun k => ?_
  rw [fnd_lstR d hp, fnd_srt, h k]
theorem drop_cons {d : List It} {i : Nat} (h : i < d.length) : d.drop i = iat d i :: d.drop (i + 1) := by
  rw [List.drop_eq_getElem_cons h, iat_get h]
theorem lstR_end {d : List It} {i : Nat} (h : i + 1 = d.length) : lstR (d.drop i) = [iat d i] ++ lstR (d.drop (i + 1)) := by
  rw [drop_cons (by omega), List.drop_eq_nil_of_le (by omega)]; rfl
theorem lstR_keep {d : List It} {i : Nat} (h : i + 1 < d.length) (hk : (iat d (i + 1)).key ≠ (iat d i).key) : lstR (d.drop i) = [iat d i] ++ lstR (d.drop (i + 1)) := by
  rw [drop_cons (show i < d.length by omega), drop_cons h]
  conv => lhs; unfold lstR
  rw [if_neg hk]; rfl
theorem lstR_skip {d : List It} {i : Nat} (h : i + 1 < d.length) (hk : (iat d (i + 1)).key = (iat d i).key) : lstR (d.drop i) = lstR (d.drop (i + 1)) := by
  rw [drop_cons (show i < d.length by omega), drop_cons h]
  conv => lhs; unfold lstR
  rw [if_pos hk]
/-! ### Blocks -/
/-- Within each block of bs the keys do not fall, between lo and hi. -/
def Blk (d : List It) (bs lo hi : Nat) : Prop := ∀ k i j, lo ≤ i → i < j → j < hi → k * bs ≤ i → j < k * bs + bs → (iat d i).key ≤ (iat d j).key
theorem Blk.nd {d : List It} {bs lo hi k a b : Nat} (h : Blk d bs lo hi) (h1 : lo ≤ a) (h2 : b ≤ hi) (h3 : k * bs ≤ a) (h4 : b ≤ k * bs + bs) : NdI d a b := fun i j i1 ij j1 => h k i j (by omega) ij (by omega) (by omega) (by omega)
theorem Blk.sub {d : List It} {bs lo hi lo' hi' : Nat} (h : Blk d bs lo hi) (h1 : lo ≤ lo') (h2 : hi' ≤ hi) : Blk d bs lo' hi' := fun k i j i1 ij j1 a b => h k i j (by omega) ij (by omega) a b
theorem Blk.none (d : List It) (bs lo : Nat) : Blk d bs lo lo := fun k i j i1 ij j1 => by omega
theorem Blk.keep {d d' : List It} {bs lo hi a b : Nat} (h : Blk d bs lo hi) (m : Moved d d' a b) (hh : hi ≤ a ∨ b ≤ lo) : Blk d' bs lo hi := fun k i j i1 ij j1 p q => by
  rw [m.out (by omega), m.out (by omega)]; exact h k i j i1 ij j1 p q
theorem Blk.more {d : List It} {bs a b k : Nat} (h : Blk d bs 0 a) (hk : a = k * bs) (n : NdI d a b) : Blk d bs 0 b := fun c i j i1 ij j1 p q => by
  by_cases e : j < a
  · exact h c i j i1 ij e p q
  · have hc : k ≤ c := by
      rcases Nat.lt_or_ge c k with hc | hc
      · have := Nat.mul_le_mul_right bs (show c + 1 ≤ k by omega)
        rw [Nat.succ_mul] at this; omega
      · exact hc
    have := Nat.mul_le_mul_right bs hc
    exact n i j (by omega) ij j1
theorem Blk.whole {d : List It} {bs n : Nat} (h : Blk d bs 0 n) (hb : n ≤ bs) : NdI d 0 n := fun i j i1 ij j1 => h 0 i j i1 ij j1 (by omega) (by omega)
end Go.Proofs.YtenkeodfijladaaGreatDoor
