/- The reference's Find, Put, Drop, Merge, in plain Lean. No program here. -/
import Derived.Test.YtenkeodfijladaaGreatDoorPm
namespace Go.Proofs.YtenkeodfijladaaGreatDoor

theorem ins_low : ∀ (u v : List It) (x : It), (∀ z ∈ u, z.key < x.key) → ins (u ++ v) x = u ++ ins v x
  | [], _, _, _ => rfl
  | y :: u, v, x, h => by
    show ins (y :: (u ++ v)) x = y :: (u ++ ins v x)
    simp only [ins]
    rw [if_pos (h y (by simp)), ins_low u v x (fun z hz => h z (by simp [hz]))]
theorem ins_high : ∀ (u v : List It) (x : It), (∃ z ∈ u, x.key ≤ z.key) → ins (u ++ v) x = ins u x ++ v
  | [], _, _, h => by obtain ⟨z, hz, _⟩ := h; cases hz
  | y :: u, v, x, h => by
    show ins (y :: (u ++ v)) x = ins (y :: u) x ++ v
    simp only [ins]
    split
    · rename_i hlt
      rw [ins_high u v x (by
        obtain ⟨z, hz, hx⟩ := h
        rcases List.mem_cons.1 hz with rfl | hz
        · omega
        · exact ⟨z, hz, hx⟩)]
      rfl
    · split <;> rfl
theorem drp_snoc (u : List It) (y : It) (key : Int) : drp (u ++ [y]) key = drp u key ++ if y.key = key then [] else [y] := by
  unfold drp
  rw [List.filter_append]
  by_cases h : y.key = key
  · rw [if_pos h]; simp [h]
  · rw [if_neg h]; simp [h]
/-- Put under way. -/
structure PutW (s : List It) (x : It) (i : Nat) (done : Bool) (out : List It) : Prop where
  no : done = false → out = s.take i ∧ ∀ z ∈ s.take i, z.key < x.key
  yes : done = true → out = ins (s.take i) x ∧ ∃ j, j < i ∧ x.key ≤ (iat s j).key
theorem PutW.start (s : List It) (x : It) : PutW s x 0 false [] := ⟨fun _ => ⟨rfl, fun z hz => by cases hz⟩, fun h => by cases h⟩
theorem PutW.low {s out : List It} {x : It} {i : Nat} (h : PutW s x i false out) (hi : i < s.length) (hk : (iat s i).key < x.key) : PutW s x (i + 1) false (out ++ [iat s i]) := by
  obtain ⟨h1, h2⟩ := h.no rfl
  refine ⟨fun _ => ⟨by rw [take_snoc hi, h1], fun z hz => ?_⟩, fun h => by cases h⟩
  rw [take_snoc hi] at hz
  rcases List.mem_append.1 hz with hz | hz
  · exact h2 z hz
  · rw [List.mem_singleton.1 hz]; exact hk
theorem PutW.here {s out : List It} {x : It} {i : Nat} (h : PutW s x i false out) (hi : i < s.length) (hk : (iat s i).key = x.key) : PutW s x (i + 1) true (out ++ [x]) := by
  obtain ⟨h1, h2⟩ := h.no rfl
  refine ⟨(fun h => by cases h), fun _ => ⟨?_, i, by omega, by omega⟩⟩
  rw [take_snoc hi, ins_low _ _ _ h2, h1]
  simp only [ins]
  rw [if_neg (by omega), if_pos hk]
theorem PutW.ahead {s out : List It} {x : It} {i : Nat} (h : PutW s x i false out) (hi : i < s.length) (hk : x.key < (iat s i).key) : PutW s x (i + 1) true (out ++ [x] ++ [iat s i]) := by
  obtain ⟨h1, h2⟩ := h.no rfl
  refine ⟨(fun h => by cases h), fun _ => ⟨?_, i, by omega, by omega⟩⟩
  rw [take_snoc hi, ins_low _ _ _ h2, h1]
  simp only [ins]
  rw [if_neg (by omega), if_neg (by omega), List.append_assoc]; rfl
theorem PutW.gt {s out : List It} {x : It} {i : Nat} (h : PutW s x i true out) (ha : Asc s) (hi : i < s.length) : x.key < (iat s i).key := by
  obtain ⟨_, j, hj, hx⟩ := h.yes rfl
  exact Int.lt_of_le_of_lt hx (ha.mono hj hi)
theorem PutW.more {s out : List It} {x : It} {i : Nat} (h : PutW s x i true out) (hi : i < s.length) : PutW s x (i + 1) true (out ++ [iat s i]) := by
  obtain ⟨h1, j, hj, hx⟩ := h.yes rfl
  refine ⟨(fun h => by cases h), fun _ => ⟨?_, j, by omega, hx⟩⟩
  rw [take_snoc hi, ins_high _ _ _ ⟨iat s j, ?_, hx⟩, h1]
  have hm : iat (s.take i) j ∈ s.take i := iat_mem (by rw [List.length_take]; omega)
  rwa [iat_take hj] at hm
theorem PutW.end1 {s out : List It} {x : It} (h : PutW s x s.length true out) : out = ins s x := by
  have := (h.yes rfl).1
  rwa [List.take_length] at this
theorem PutW.end0 {s out : List It} {x : It} (h : PutW s x s.length false out) : out ++ [x] = ins s x := by
  obtain ⟨h1, h2⟩ := h.no rfl
  rw [List.take_length] at h1 h2
  rw [ins_last x s h2, h1]
theorem PutW.len {s out : List It} {x : It} {i : Nat} {b : Bool} (h : PutW s x i b out) : out.length ≤ i + 1 := by
  cases b with
  | false => rw [(h.no rfl).1, List.length_take]; omega
  | true =>
    have := ins_length x (s.take i)
    rw [(h.yes rfl).1]
    have h2 : (s.take i).length ≤ i := by rw [List.length_take]; omega
    omega
/-- The last item with a key. -/
theorem last_at {l : List It} {key : Int} {r : Nat} (h : r < l.length) (hk : (iat l r).key = key) (hn : ∀ j, r < j → j < l.length → (iat l j).key ≠ key) : fnd (srt l) key = some (iat l r) := by
  rw [fnd_srt]
  have e : l = l.take r ++ iat l r :: l.drop (r + 1) := by rw [← drop_cons h, List.take_append_drop]
  have h0 : (l.drop (r + 1)).filter (fun y => y.key == key) = [] := by
    rw [List.filter_eq_nil_iff]
    intro y hy
    obtain ⟨j, hj, rfl⟩ := mem_iat hy
    rw [iat_drop]
    rw [List.length_drop] at hj
    simpa using hn (r + 1 + j) (by omega) (by omega)
  conv => lhs; rw [e]
  rw [List.filter_append, List.filter_cons, if_pos (by simp [hk]), h0, List.getLast?_append]
  rfl
theorem last_none {l : List It} {key : Int} (hn : ∀ j, j < l.length → (iat l j).key ≠ key) : fnd (srt l) key = none := by
  rw [fnd_srt]
  have h0 : l.filter (fun y => y.key == key) = [] := by
    rw [List.filter_eq_nil_iff]
    intro y hy
    obtain ⟨j, hj, rfl⟩ := mem_iat hy
    simpa using hn j hj
  rw [h0]; rfl
def drps (s : List It) (gone : List Int) : List It := gone.foldl drp s
theorem drps_kept : ∀ (gone : List Int) (s : List It), drps s gone = kept gone s
  | [], s => by
    unfold drps kept
    rw [List.foldl_nil]
    symm
    rw [List.filter_eq_self]
    intro x _; rfl
  | g :: gone, s => by
    show drps (drp s g) gone = _
    rw [drps_kept gone]
    unfold kept drp
    rw [List.filter_filter]
    congr 1
    funext x
    rw [List.contains_cons, Bool.not_or, Bool.and_comm]
theorem drps_asc {s : List It} (h : Asc s) (gone : List Int) : Asc (drps s gone) := by rw [drps_kept]; exact kept_asc gone h
theorem drps_length (s : List It) (gone : List Int) : (drps s gone).length ≤ s.length := by rw [drps_kept]; exact kept_length gone s
theorem drps_snoc (s : List It) (gone : List Int) (k : Int) : drps s (gone ++ [k]) = drp (drps s gone) k := by unfold drps; rw [List.foldl_append]; rfl
def puts (s v : List It) : List It := v.foldl ins s
theorem puts_snoc (s v : List It) (x : It) : puts s (v ++ [x]) = ins (puts s v) x := by unfold puts; rw [List.foldl_append]; rfl
theorem puts_asc {s : List It} (h : Asc s) (v : List It) : Asc (puts s v) := (ascR_iff _).1 (foldl_asc v s ((ascR_iff _).2 h))
theorem puts_length (s : List It) : ∀ v : List It, (puts s v).length ≤ s.length + v.length
  | [] => Nat.le_refl _
  | x :: v => by
    have h1 := puts_length (ins s x) v
    have h2 := ins_length x s
    show (puts (ins s x) v).length ≤ _
    rw [List.length_cons]; omega
theorem mrg_puts (old fresh : List It) (gone : List Int) : puts (drps (srt old) gone) (srt fresh) = mrg old fresh gone := by
  unfold mrg
  rw [drps_kept, srt_append, srt_of_asc (kept_asc gone (srt_asc old))]; rfl
end Go.Proofs.YtenkeodfijladaaGreatDoor
