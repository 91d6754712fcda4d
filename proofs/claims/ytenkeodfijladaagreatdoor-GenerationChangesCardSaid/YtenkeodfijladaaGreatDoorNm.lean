/- The needle map, in plain Lean: stripes of items, live and other bytes. No program here. -/
import Derived.Test.YtenkeodfijladaaGreatDoorSu
import Derived.Test.YtenkeodfijladaaGreatDoorPr
namespace Go.Proofs.YtenkeodfijladaaGreatDoor

def strp (key : Int) : Nat := (key * 11400714819323198485 % 18446744073709551616 / 2305843009213693952).toNat
theorem strp_lt (key : Int) : strp key < 8 := by unfold strp; omega
structure Mp where
  st : Nat → List It
  live : Int
  garb : Int
/-- The first n stripes, one behind the other. -/
def cat (f : Nat → List It) : Nat → List It
  | 0 => []
  | n + 1 => cat f n ++ f n
def allM (M : Mp) : List It := cat M.st 8
def okS (M : Mp) (i : Nat) : Bool := vldB (M.st i) && (M.st i).all fun x => strp x.key == i
def vldM (M : Mp) : Bool := (List.range 8).all (okS M) && (M.live == (sumI (allM M) : Int)) && decide (0 ≤ M.garb) && decide (M.garb ≤ 1099511627776)
structure VldM (M : Mp) : Prop where
  ok : ∀ i, i < 8 → vldB (M.st i) = true
  sp : ∀ i, i < 8 → ∀ x ∈ M.st i, strp x.key = i
  lv : M.live = (sumI (allM M) : Int)
  g0 : 0 ≤ M.garb
  g1 : M.garb ≤ 1099511627776
theorem vldM_iff (M : Mp) : vldM M = true ↔ VldM M := by
  unfold vldM okS
  rw [Bool.and_eq_true, Bool.and_eq_true, Bool.and_eq_true, List.all_eq_true, decide_eq_true_eq, decide_eq_true_eq, beq_iff_eq]
  constructor
  · rintro ⟨⟨⟨h1, h2⟩, h3⟩, h4⟩
    have h := fun i (hi : i < 8) => Bool.and_eq_true_iff.1 (h1 i (List.mem_range.2 hi))
    exact ⟨fun i hi => (h i hi).1, fun i hi x hx => beq_iff_eq.1 (List.all_eq_true.1 (h i hi).2 x hx), h2, h3, h4⟩
  · rintro ⟨h1, h2, h3, h4, h5⟩
    exact ⟨⟨⟨fun i hi => Bool.and_eq_true_iff.2 ⟨h1 i (List.mem_range.1 hi), List.all_eq_true.2 fun x hx => beq_iff_eq.2 (h2 i (List.mem_range.1 hi) x hx)⟩, h3⟩, h4⟩, h5⟩
theorem pw_of {l : List It} (h : Asc l) : l.Pairwise fun a b => a.key < b.key := ascR_pw ((ascR_iff _).2 h)
theorem vld_asc {l : List It} (h : vldB l = true) : Asc l := (vldB_iff.1 h).1
theorem fnd_mem' {l : List It} (h : Asc l) {y : It} (hy : y ∈ l) : fnd l y.key = some y := by
  have hp := pw_of h
  clear h
  induction l with
  | nil => cases hy
  | cons x l ih =>
    rw [List.pairwise_cons] at hp
    rw [fnd_cons]
    rcases List.mem_cons.1 hy with rfl | hy
    · rw [if_pos rfl]
    · rw [if_neg (by have := hp.1 y hy; omega)]; exact ih hy hp.2
theorem fnd_none_iff {l : List It} {k : Int} (h : fnd l k = none) : ∀ x ∈ l, x.key ≠ k := fun x hx => by
  unfold fnd at h
  rw [List.find?_eq_none] at h
  simpa using h x hx
/-- One list laid upon another. -/
theorem fnd_lay (s : List It) (k : Int) : ∀ n (v : List It), v.length = n → fnd (v.foldl ins s) k = match fnd (srt v) k with | some x => some x | none => fnd s k
  | 0, v, h => by rw [List.length_eq_zero_iff.1 h]; rfl
  | n + 1, v, h => by
    obtain ⟨u, y, rfl⟩ : ∃ u y, v = u ++ [y] := by
      have hv : v ≠ [] := fun e => by rw [e] at h; cases h
      exact ⟨v.dropLast, v.getLast hv, (List.dropLast_concat_getLast hv).symm⟩
    have ih := fnd_lay s k n u (by rw [List.length_append] at h; simpa using h)
    rw [List.foldl_append, srt_snoc]
    show fnd (ins (u.foldl ins s) y) k = _
    rw [fnd_ins', fnd_ins', ih]
    by_cases e : y.key = k
    · rw [if_pos e, if_pos e]
    · rw [if_neg e, if_neg e]
theorem fnd_app (u v : List It) (k : Int) : fnd (srt (u ++ v)) k = match fnd (srt v) k with | some x => some x | none => fnd (srt u) k := by
  rw [srt_append]; exact fnd_lay (srt u) k _ v rfl
/-- What a key has among the first n stripes. -/
theorem fnd_cat (f : Nat → List It) (k : Int) : ∀ n, (∀ i, i < n → Asc (f i) ∧ ∀ x ∈ f i, strp x.key = i) → fnd (srt (cat f n)) k = if strp k < n then fnd (f (strp k)) k else none
  | 0, _ => by rw [if_neg (by omega)]; rfl
  | n + 1, h => by
    have ih := fnd_cat f k n (fun i hi => h i (by omega))
    obtain ⟨ha, hs⟩ := h n (by omega)
    show fnd (srt (cat f n ++ f n)) k = _
    rw [fnd_app, srt_of_asc ha, ih]
    by_cases e : strp k = n
    · rw [if_neg (show ¬ strp k < n by omega), if_pos (show strp k < n + 1 by omega), e]
      cases fnd (f n) k <;> rfl
    · have hn : fnd (f n) k = none := fnd_none_of fun x hx e2 => e (by rw [← e2]; exact hs x hx)
      rw [hn]
      by_cases hl : strp k < n
      · rw [if_pos hl, if_pos (by omega)]
      · rw [if_neg hl, if_neg (by omega)]
theorem VldM.fnd {M : Mp} (h : VldM M) (k : Int) : fnd (srt (allM M)) k = fnd (M.st (strp k)) k := by
  have := fnd_cat M.st k 8 (fun i hi => ⟨vld_asc (h.ok i hi), h.sp i hi⟩)
  rw [if_pos (strp_lt k)] at this
  exact this
theorem fnd_filter (p : It → Bool) (b : Bool) (k : Int) (hp : ∀ x : It, x.key = k → p x = b) : ∀ l : List It, fnd (l.filter p) k = if b then fnd l k else none
  | [] => by cases b <;> rfl
  | x :: l => by
    have ih := fnd_filter p b k hp l
    by_cases e : x.key = k
    · rw [List.filter_cons, hp x e]
      cases b
      · simpa using ih
      · simp only [if_true]; rw [fnd_cons, fnd_cons, if_pos e, if_pos e]
    · rw [List.filter_cons]
      split
      · rw [fnd_cons, if_neg e, ih, fnd_cons, if_neg e]
      · rw [ih, fnd_cons, if_neg e]
def inS (i : Nat) (l : List It) : List It := l.filter fun x => strp x.key == i
theorem fnd_inS (i : Nat) (l : List It) (k : Int) : fnd (inS i l) k = if strp k = i then fnd l k else none := by
  have := fnd_filter (fun x => strp x.key == i) (decide (strp k = i)) k (fun x e => by rw [e]; by_cases h : strp k = i <;> simp [h]) l
  unfold inS
  rw [this]
  by_cases h : strp k = i <;> simp [h]
theorem inS_asc (i : Nat) {l : List It} (h : Asc l) : (inS i l).Pairwise fun a b => a.key < b.key := (pw_of h).filter _
theorem inS_ok (i : Nat) (l : List It) : ∀ x ∈ inS i l, strp x.key = i := fun x hx => by simpa using (List.mem_filter.1 hx).2
/-- A stripe is what the whole list has of it. -/
theorem VldM.inS {M : Mp} (h : VldM M) {i : Nat} (hi : i < 8) : inS i (srt (allM M)) = M.st i := by
  refine asc_ext _ _ (inS_asc i (srt_asc _)) (pw_of (vld_asc (h.ok i hi))) fun k => ?_
  rw [fnd_inS, h.fnd]
  by_cases e : strp k = i
  · rw [if_pos e, e]
  · rw [if_neg e]
    exact (fnd_none_of fun x hx e2 => e (by rw [← e2]; exact h.sp i hi x hx)).symm
theorem inS_ins {l : List It} (h : Asc l) (x : It) (i : Nat) : inS i (ins l x) = if strp x.key = i then ins (inS i l) x else inS i l := by
  have hp := inS_asc i h
  refine asc_ext _ _ ((ascR_pw (ins_asc _ _ ((ascR_iff _).2 h))).filter _) ?_ fun k => ?_
  · split
    · exact ascR_pw (ins_asc _ _ (pw_ascR hp))
    · exact hp
  · rw [fnd_inS, fnd_ins']
    by_cases e : strp x.key = i
    · rw [if_pos e, fnd_ins', fnd_inS]
      by_cases e2 : x.key = k
      · rw [if_pos e2, if_pos (show strp k = i by rw [← e2]; exact e), if_pos e2]
      · rw [if_neg e2, if_neg e2]
    · rw [if_neg e, fnd_inS]
      by_cases e2 : x.key = k
      · rw [if_neg (by rw [← e2]; exact e), if_neg (by rw [← e2]; exact e)]
      · rw [if_neg e2]
theorem inS_drp {l : List It} (h : Asc l) (key : Int) (i : Nat) : inS i (drp l key) = if strp key = i then drp (inS i l) key else inS i l := by
  have hp := inS_asc i h
  refine asc_ext _ _ ((pw_of (drp_asc h key)).filter _) ?_ fun k => ?_
  · split
    · exact hp.filter _
    · exact hp
  · rw [fnd_inS, fnd_drp']
    by_cases e : strp key = i
    · rw [if_pos e, fnd_drp', fnd_inS]
      by_cases e2 : k = key
      · rw [if_pos e2, if_pos (show strp k = i by rw [e2]; exact e), if_pos e2]
      · rw [if_neg e2, if_neg e2]
    · rw [if_neg e, fnd_inS]
      by_cases e2 : k = key
      · rw [if_neg (by rw [e2]; exact e), if_neg (by rw [e2]; exact e)]
      · rw [if_neg e2]
/-! ### Bytes -/
def szO : Option It → Nat
  | some y => szN y.size.toNat
  | none => 0
theorem sumI_put (x : It) : ∀ s : List It, Asc s → sumI (ins s x) + szO (fnd s x.key) = sumI s + szN x.size.toNat := fun s h => by
  have hp := pw_of h
  clear h
  induction s with
  | nil => simp [ins, sumI, szO, fnd]
  | cons y s ih =>
    rw [List.pairwise_cons] at hp
    have ih := ih hp.2
    rw [fnd_cons]
    simp only [ins]
    split
    · rename_i hlt
      rw [if_neg (by omega)]
      show szN y.size.toNat + sumI (ins s x) + _ = szN y.size.toNat + sumI s + _
      omega
    · split
      · rename_i hle he
        show szN x.size.toNat + sumI s + szN y.size.toNat = szN y.size.toNat + sumI s + _
        omega
      · rename_i hle he
        have : fnd s x.key = none := fnd_none_of fun z hz e => by have := hp.1 z hz; omega
        rw [this]
        show szN x.size.toNat + (szN y.size.toNat + sumI s) + 0 = szN y.size.toNat + sumI s + _
        omega
theorem sumI_drp (key : Int) : ∀ s : List It, Asc s → sumI (drp s key) + szO (fnd s key) = sumI s := fun s h => by
  have hp := pw_of h
  clear h
  induction s with
  | nil => rfl
  | cons y s ih =>
    rw [List.pairwise_cons] at hp
    have ih := ih hp.2
    rw [fnd_cons]
    by_cases e : y.key = key
    · have hn : drp s key = s := by
        unfold drp
        rw [List.filter_eq_self]
        intro z hz
        have := hp.1 z hz
        have : z.key ≠ key := by omega
        simpa using this
      have : drp (y :: s) key = s := by rw [← hn]; unfold drp; rw [List.filter_cons, if_neg (by simpa using e), List.filter_filter]; simp
      rw [if_pos e, this]
      show sumI s + szN y.size.toNat = szN y.size.toNat + sumI s
      omega
    · have : drp (y :: s) key = y :: drp s key := by unfold drp; rw [List.filter_cons, if_pos (by simpa using e)]
      rw [if_neg e, this]
      show szN y.size.toNat + sumI (drp s key) + _ = szN y.size.toNat + sumI s
      omega
theorem sumI_lay : ∀ (v s : List It), Asc s → (v.Pairwise fun a b => a.key < b.key) → (∀ x ∈ v, fnd s x.key = none) → sumI (v.foldl ins s) = sumI s + sumI v
  | [], s, _, _, _ => by simp [sumI]
  | x :: v, s, hs, hv, hn => by
    rw [List.pairwise_cons] at hv
    have h1 := sumI_put x s hs
    rw [hn x (by simp)] at h1
    show sumI (v.foldl ins (ins s x)) = _
    rw [sumI_lay v (ins s x) ((ascR_iff _).1 (ins_asc _ _ ((ascR_iff _).2 hs))) hv.2 (fun y hy => by
      rw [fnd_ins', if_neg (by have := hv.1 y hy; omega)]; exact hn y (by simp [hy]))]
    show _ = sumI s + (szN x.size.toNat + sumI v)
    simp only [szO] at h1
    omega
theorem sumI_cat (f : Nat → List It) : ∀ n, (∀ i, i < n → Asc (f i) ∧ ∀ x ∈ f i, strp x.key = i) → sumI (srt (cat f n)) = sumI (cat f n)
  | 0, _ => rfl
  | n + 1, h => by
    have ih := sumI_cat f n (fun i hi => h i (by omega))
    obtain ⟨ha, hs⟩ := h n (by omega)
    show sumI (srt (cat f n ++ f n)) = sumI (cat f n ++ f n)
    rw [srt_append, sumI_lay _ _ (srt_asc _) (pw_of ha) (fun x hx => by
      rw [fnd_cat f x.key n (fun i hi => h i (by omega)), if_neg (by rw [hs x hx]; omega)]), sumI_append, ih]
theorem VldM.sum {M : Mp} (h : VldM M) : sumI (srt (allM M)) = sumI (allM M) := sumI_cat M.st 8 fun i hi => ⟨vld_asc (h.ok i hi), h.sp i hi⟩
end Go.Proofs.YtenkeodfijladaaGreatDoor
