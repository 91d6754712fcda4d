/- Ascending lists of files: where a name is; what stays valid. No program here. -/
import Derived.Test.YtkabcpmnbjllcaaDoorZb
namespace Go.Proofs.YtkabcpmnbjllcaaDoor

theorem lex_irrefl (a : List UInt8) : ¬ a < a := List.lt_irrefl a
theorem lex_trans {a b c : List UInt8} (h : a < b) (h' : b < c) : a < c := List.lt_trans h h'
theorem lex_tri (a b : List UInt8) : a < b ∨ a = b ∨ b < a := by
  rcases Classical.em (a < b) with h | h
  · exact .inl h
  · rcases Classical.em (b < a) with h' | h'
    · exact .inr (.inr h')
    · exact .inr (.inl (List.le_antisymm (List.not_lt.1 h') (List.not_lt.1 h)))
theorem ascN_iff : ∀ (l : List Fil), ascN l = true ↔ l.Pairwise (fun a b => a.name < b.name)
  | [] => by simp [ascN]
  | [a] => by simp [ascN]
  | a :: b :: r => by
    have ih := ascN_iff (b :: r)
    simp only [ascN, Bool.and_eq_true, decide_eq_true_eq, ih, List.pairwise_cons]
    refine ⟨fun ⟨h1, h2, h3⟩ => ⟨?_, h2, h3⟩, fun ⟨h1, h2, h3⟩ => ⟨h1 b (List.mem_cons_self ..), h2, h3⟩⟩
    intro x hx
    rcases List.mem_cons.1 hx with e | e
    · rw [e]; exact h1
    · exact lex_trans h1 (h2 x e)
theorem lowN_le (l : List Fil) (s : List UInt8) : lowN l s ≤ l.length := by
  unfold lowN; exact (List.takeWhile_sublist _).length_le
theorem lowN_cons (f : Fil) (l : List Fil) (s : List UInt8) : lowN (f :: l) s = if f.name < s then lowN l s + 1 else 0 := by
  unfold lowN
  rw [List.takeWhile_cons]
  by_cases h : f.name < s
  · simp [h]
  · simp [h]
theorem atN_cons (f : Fil) (l : List Fil) (i : Nat) : atN (f :: l) (i + 1) = atN l i := rfl
/-- Below the place all names are below; from it on, none (in an ascending list). -/
theorem lowN_below : ∀ (l : List Fil) (s : List UInt8) (i : Nat), i < lowN l s → (atN l i).name < s
  | [], _, i, h => by cases h
  | f :: l, s, i, h => by
    rw [lowN_cons] at h
    by_cases e : f.name < s
    · rw [if_pos e] at h
      cases i with
      | zero => exact e
      | succ i => exact lowN_below l s i (by omega)
    · rw [if_neg e] at h; cases h
theorem lowN_at : ∀ (l : List Fil) (s : List UInt8), lowN l s < l.length → ¬ (atN l (lowN l s)).name < s
  | [], _, h => by cases h
  | f :: l, s, h => by
    rw [lowN_cons] at h ⊢
    by_cases e : f.name < s
    · rw [if_pos e] at h ⊢
      exact lowN_at l s (by simpa using h)
    · rw [if_neg e]; exact e
theorem pairwise_at {l : List Fil} (h : l.Pairwise (fun a b => a.name < b.name)) {i j : Nat} (hij : i < j) (hj : j < l.length) : (atN l i).name < (atN l j).name := by
  have hi : i < l.length := by omega
  unfold atN
  rw [List.getD_eq_getElem?_getD, List.getD_eq_getElem?_getD, List.getElem?_eq_getElem hi, List.getElem?_eq_getElem hj]
  exact List.pairwise_iff_getElem.1 h i j hi hj hij
theorem lowN_up {l : List Fil} (h : l.Pairwise (fun a b => a.name < b.name)) {s : List UInt8} {i : Nat} (hi : lowN l s ≤ i) (hl : i < l.length) : ¬ (atN l i).name < s := by
  have h0 := lowN_at l s (by omega)
  rcases Nat.lt_or_eq_of_le hi with e | e
  · exact fun hc => h0 (lex_trans (pairwise_at h e hl) hc)
  · rw [← e]; exact h0
theorem mem_atN {l : List Fil} {x : Fil} (h : x ∈ l) : ∃ i, i < l.length ∧ atN l i = x := by
  obtain ⟨i, hi, e⟩ := List.getElem_of_mem h
  refine ⟨i, hi, ?_⟩
  unfold atN
  rw [List.getD_eq_getElem?_getD, List.getElem?_eq_getElem hi]
  exact e
theorem atN_mem {l : List Fil} {i : Nat} (h : i < l.length) : atN l i ∈ l := by
  unfold atN; rw [List.getD_eq_getElem?_getD, List.getElem?_eq_getElem h]; exact List.getElem_mem h
theorem hasN_iff {l : List Fil} (h : l.Pairwise (fun a b => a.name < b.name)) (s : List UInt8) : hasN l s = true ↔ lowN l s < l.length ∧ (atN l (lowN l s)).name = s := by
  unfold hasN
  rw [List.any_eq_true]
  constructor
  · rintro ⟨x, hx, e⟩
    have e : x.name = s := by simpa using e
    obtain ⟨i, hi, rfl⟩ := mem_atN hx
    have h1 : ¬ i < lowN l s := fun hc => lex_irrefl s (by have := lowN_below l s i hc; rwa [e] at this)
    have h2 : ¬ lowN l s < i := fun hc => by
      have h3 := pairwise_at h hc hi
      rw [e] at h3
      exact lowN_at l s (by omega) h3
    have h3 : lowN l s = i := by omega
    rw [h3]
    exact ⟨hi, e⟩
  · rintro ⟨h1, h2⟩
    exact ⟨_, atN_mem h1, by simp [h2]⟩
/-- Any index with the name is the place. -/
theorem lowN_eq {l : List Fil} (h : l.Pairwise (fun a b => a.name < b.name)) {s : List UInt8} {i : Nat} (hi : i < l.length) (e : (atN l i).name = s) : lowN l s = i := by
  have h1 : ¬ i < lowN l s := fun hc => lex_irrefl s (by have := lowN_below l s i hc; rwa [e] at this)
  have h2 : ¬ lowN l s < i := fun hc => by
    have h3 := pairwise_at h hc hi
    rw [e] at h3
    exact lowN_at l s (by omega) h3
  omega
structure VldD (d : Dk) : Prop where
  cap : 0 ≤ d.cap
  left : -1 ≤ d.left
  len : d.files.length ≤ 256
  ok : ∀ f ∈ d.files, nameB f.name = true ∧ sizedF f = true
  asc : d.files.Pairwise (fun a b => a.name < b.name)
theorem validD_iff (d : Dk) : validD d = true ↔ VldD d := by
  unfold validD
  simp only [Bool.and_eq_true, decide_eq_true_eq, List.all_eq_true, okF, ascN_iff]
  exact ⟨fun ⟨⟨⟨⟨h1, h2⟩, h3⟩, h4⟩, h5⟩ => ⟨h1, h2, h3, h4, h5⟩, fun h => ⟨⟨⟨⟨h.cap, h.left⟩, h.len⟩, h.ok⟩, h.asc⟩⟩
theorem readyE_ok {d : Dk} {s : List UInt8} (h : readyE d s = 0) : VldD d ∧ nameB s = true ∧ d.left ≠ 0 := by
  unfold readyE at h
  split at h
  · cases h
  · rename_i hv
    split at h
    · cases h
    · rename_i hl
      simp only [Bool.not_eq_true', Bool.and_eq_false_iff, not_or, Bool.not_eq_false] at hv
      exact ⟨(validD_iff d).1 hv.1, hv.2, hl⟩
theorem atE_ok {d : Dk} {s : List UInt8} (h : atE d s = 0) : VldD d ∧ nameB s = true ∧ d.left ≠ 0 ∧ lowN d.files s < d.files.length ∧ (atN d.files (lowN d.files s)).name = s := by
  unfold atE at h
  split at h
  · rename_i h1; exact absurd h h1
  · rename_i h1
    split at h
    · rename_i h2
      have h1 : readyE d s = 0 := by simpa using h1
      obtain ⟨a, b, c⟩ := readyE_ok h1
      obtain ⟨e, f⟩ := (hasN_iff a.asc s).1 h2
      exact ⟨a, b, c, e, f⟩
    · cases h
theorem nextL_ok {l : Int} (h : -1 ≤ l) : -1 ≤ nextL l := by unfold nextL; split <;> omega
/-- A file in the place of one of the same name. -/
theorem VldD.set {d : Dk} (h : VldD d) {i : Nat} (hi : i < d.files.length) {f : Fil} (hn : f.name = (atN d.files i).name) (hs : sizedF f = true) {l : Int} (hl : -1 ≤ l) : VldD ⟨d.cap, l, d.files.set i f⟩ := by
  have hnb : nameB f.name = true := by rw [hn]; exact (h.ok _ (atN_mem hi)).1
  refine ⟨h.cap, hl, by simpa using h.len, ?_, ?_⟩
  · intro g hg
    rcases List.mem_or_eq_of_mem_set hg with e | e
    · exact h.ok g e
    · rw [e]; exact ⟨hnb, hs⟩
  · rw [List.pairwise_iff_getElem]
    intro a b ha hb hab
    have key : ∀ k (hk : k < (d.files.set i f).length), ((d.files.set i f)[k]).name = (atN d.files k).name := fun k hk => by
      have hk' : k < d.files.length := by simpa using hk
      rw [List.getElem_set]
      split
      · rename_i e; subst e; exact hn
      · unfold atN; rw [List.getD_eq_getElem?_getD, List.getElem?_eq_getElem hk']; rfl
    show ((d.files.set i f)[a]).name < ((d.files.set i f)[b]).name
    rw [key a ha, key b hb]
    exact pairwise_at h.asc hab (by simpa using hb)
theorem VldD.drop {d : Dk} (h : VldD d) (i : Nat) {l : Int} (hl : -1 ≤ l) : VldD ⟨d.cap, l, dropN d.files i⟩ := by
  have hs : (dropN d.files i).Sublist d.files := by
    unfold dropN
    have := List.Sublist.append (List.Sublist.refl (d.files.take i)) (show (d.files.drop (i + 1)).Sublist (d.files.drop i) by
      rw [← List.drop_drop]; exact List.drop_sublist 1 _)
    rwa [List.take_append_drop] at this
  exact ⟨h.cap, hl, Nat.le_trans hs.length_le h.len, fun f hf => h.ok f (hs.subset hf), h.asc.sublist hs⟩
theorem addN_mem {l : List Fil} {f x : Fil} (h : x ∈ addN l f) : x = f ∨ x ∈ l := by
  unfold addN at h
  rcases List.mem_append.1 h with e | e
  · exact .inr (List.mem_of_mem_take e)
  · rcases List.mem_cons.1 e with e | e
    · exact .inl e
    · exact .inr (List.mem_of_mem_drop (List.mem_filter.1 e).1)
theorem addN_asc {l : List Fil} (h : l.Pairwise (fun a b => a.name < b.name)) (f : Fil) : (addN l f).Pairwise (fun a b => a.name < b.name) := by
  unfold addN
  have hlow : ∀ x ∈ l.take (lowN l f.name), x.name < f.name := fun x hx => by
    obtain ⟨i, hi, e⟩ := List.getElem_of_mem hx
    have hi' : i < lowN l f.name ∧ i < l.length := by rw [List.length_take] at hi; omega
    have := lowN_below l f.name i hi'.1
    rw [List.getElem_take] at e
    unfold atN at this
    rw [List.getD_eq_getElem?_getD, List.getElem?_eq_getElem hi'.2] at this
    rw [← e]; exact this
  have hup : ∀ x ∈ (l.drop (lowN l f.name)).filter (fun x => x.name != f.name), f.name < x.name := fun x hx => by
    obtain ⟨hx, hne⟩ := List.mem_filter.1 hx
    have hne : x.name ≠ f.name := by simpa using hne
    obtain ⟨i, hi, e⟩ := List.getElem_of_mem hx
    have hi' : lowN l f.name + i < l.length := by rw [List.length_drop] at hi; omega
    have h1 := lowN_up h (s := f.name) (i := lowN l f.name + i) (by omega) hi'
    rw [List.getElem_drop] at e
    unfold atN at h1
    rw [List.getD_eq_getElem?_getD, List.getElem?_eq_getElem hi'] at h1
    have h1 : ¬ x.name < f.name := by rw [← e]; exact h1
    rcases lex_tri x.name f.name with e | e | e
    · exact absurd e h1
    · exact absurd e hne
    · exact e
  rw [List.pairwise_append]
  refine ⟨h.sublist (List.take_sublist ..), ?_, ?_⟩
  · rw [List.pairwise_cons]
    exact ⟨hup, h.sublist ((List.filter_sublist).trans (List.drop_sublist ..))⟩
  · intro a ha b hb
    rcases List.mem_cons.1 hb with e | e
    · rw [e]; exact hlow a ha
    · exact lex_trans (hlow a ha) (hup b e)
theorem addN_length (l : List Fil) (f : Fil) : (addN l f).length ≤ l.length + 1 := by
  unfold addN
  simp only [List.length_append, List.length_cons, List.length_take]
  have := List.length_filter_le (fun x : Fil => x.name != f.name) (l.drop (lowN l f.name))
  rw [List.length_drop] at this
  omega
/-- If the name is not there, the file is put in. -/
theorem addN_new {l : List Fil} {f : Fil} (h : hasN l f.name = false) : addN l f = l.take (lowN l f.name) ++ f :: l.drop (lowN l f.name) := by
  unfold addN
  congr 2
  rw [List.filter_eq_self]
  intro x hx
  have hx := List.mem_of_mem_drop hx
  unfold hasN at h
  rw [List.any_eq_false] at h
  have := h x hx
  simpa using this
/-- If it is there, the file takes the other's place. -/
theorem addN_old {l : List Fil} (ha : l.Pairwise (fun a b => a.name < b.name)) {f : Fil} (h : hasN l f.name = true) : addN l f = l.set (lowN l f.name) f := by
  obtain ⟨h1, h2⟩ := (hasN_iff ha _).1 h
  unfold addN
  generalize lowN l f.name = k at *
  rw [List.set_eq_take_append_cons_drop, if_pos h1]
  congr 2
  rw [List.drop_eq_getElem_cons h1]
  have hk : (l[k]).name = f.name := by
    unfold atN at h2; rw [List.getD_eq_getElem?_getD, List.getElem?_eq_getElem h1] at h2; exact h2
  rw [List.filter_cons, if_neg (by simp [hk]), List.filter_eq_self]
  intro x hx
  obtain ⟨i, hi, e⟩ := List.getElem_of_mem hx
  rw [List.getElem_drop] at e
  have hi' : k + 1 + i < l.length := by rw [List.length_drop] at hi; omega
  have := List.pairwise_iff_getElem.1 ha k (k + 1 + i) h1 hi' (by omega)
  rw [e, hk] at this
  simp only [bne_iff_ne, ne_eq]
  exact fun hc => lex_irrefl f.name (by rwa [hc] at this)
end Go.Proofs.YtkabcpmnbjllcaaDoor
