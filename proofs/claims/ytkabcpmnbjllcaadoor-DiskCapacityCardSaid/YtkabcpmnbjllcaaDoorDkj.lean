/- DiskCapacity in plain Lean: what the contents have together. No program here. -/
import Derived.Test.YtkabcpmnbjllcaaDoorZs
namespace Go.Proofs.YtkabcpmnbjllcaaDoor

theorem totL_app (a b : List Fil) (n : Int) : totL (a ++ b) n = totL b (totL a n) := by unfold totL; rw [List.foldl_append]
theorem totL_sub : ∀ {a b : List Fil}, a.Sublist b → (∀ f ∈ b, 0 ≤ lenF f) → totL a 0 ≤ totL b 0 := by
  intro a b h
  induction h with
  | slnil => intro _; exact Int.le_refl _
  | cons x h ih =>
    intro hb
    show _ ≤ totL _ (0 + lenF x)
    rw [totL_base _ (0 + lenF x)]
    have := ih fun f hf => hb f (List.mem_cons_of_mem _ hf)
    have := hb x (by simp)
    omega
  | cons_cons x h ih =>
    intro hb
    show totL _ (0 + lenF x) ≤ totL _ (0 + lenF x)
    rw [totL_base _ (0 + lenF x), totL_base (_ : List Fil) (0 + lenF x)]
    have := ih fun f hf => hb f (List.mem_cons_of_mem _ hf)
    omega
theorem totL_ins (l : List Fil) (i : Nat) (f : Fil) : totL (l.take i ++ f :: l.drop i) 0 = totL l 0 + lenF f := by
  rw [totL_app]
  show totL (l.drop i) (totL (l.take i) 0 + lenF f) = _
  rw [totL_base]
  have := totL_app (l.take i) (l.drop i) 0
  rw [List.take_append_drop] at this
  rw [this, totL_base (l.drop i) (totL (l.take i) 0)]
  omega
structure CapI (c : Int) (d : Dk) : Prop where
  vld : VldD d
  cap : d.cap = c
  left : d.left = -1
  tot : totD d ≤ c
theorem VldD.pos {d : Dk} (h : VldD d) : ∀ f ∈ d.files, 0 ≤ lenF f := fun f hf => (lenF_bounds (h.ok f hf).2).1
theorem len_le_tot {l : List Fil} (h : ∀ f ∈ l, 0 ≤ lenF f) {i : Nat} (hi : i < l.length) : lenF (atN l i) ≤ totL l 0 := by
  have h1 : [atN l i].Sublist l := by
    rw [List.singleton_sublist]
    exact atN_mem hi
  have := totL_sub h1 h
  show lenF (atN l i) ≤ _
  have e : totL [atN l i] 0 = lenF (atN l i) := by simp [totL]
  omega
theorem dropN_tot {l : List Fil} (h : ∀ f ∈ l, 0 ≤ lenF f) (i : Nat) (hi : i < l.length) : totL (dropN l i) 0 + lenF (atN l i) = totL l 0 := by
  unfold dropN
  have h1 := totL_ins (l.take i ++ l.drop (i + 1)) i (atN l i)
  have h2 : (l.take i ++ l.drop (i + 1)).take i ++ atN l i :: (l.take i ++ l.drop (i + 1)).drop i = l := by
    rw [List.take_append_of_le_length (by rw [List.length_take]; omega), List.take_take, Nat.min_self, List.drop_append_of_le_length (by rw [List.length_take]; omega)]
    have h3 : (l.take i).drop i = [] := List.drop_eq_nil_of_le (by rw [List.length_take]; omega)
    have h4 : atN l i = l[i] := by unfold atN; rw [List.getD_eq_getElem?_getD, List.getElem?_eq_getElem hi]; rfl
    rw [h3, List.nil_append, h4, ← List.drop_eq_getElem_cons hi, List.take_append_drop]
  rw [h2] at h1
  omega
theorem addN_tot {l : List Fil} (ha : l.Pairwise (fun a b => a.name < b.name)) (h : ∀ f ∈ l, 0 ≤ lenF f) (f : Fil) : totL (addN l f) 0 ≤ totL l 0 + lenF f := by
  cases hh : hasN l f.name with
  | false => rw [addN_new hh, totL_ins]; exact Int.le_refl _
  | true =>
    rw [addN_old ha hh]
    have hi := ((hasN_iff ha f.name).1 hh).1
    rw [totL_set _ _ _ _ hi]
    have := h _ (atN_mem hi)
    omega
theorem written_cap {c : Int} {d : Dk} (h : CapI c d) (hc : 0 < c) {i : Nat} (hi : i < d.files.length) {w : Wr} (hw : FitsW w (atN d.files i)) (he : (writtenD d i w).2 = 0) : CapI c (writtenD d i w).1 := by
  have hv := writtenD_vld h.vld hi hw he
  revert hv he
  unfold writtenD
  dsimp only
  split
  · intro he; cases he
  · split
    · intro he; cases he
    · rename_i h1 h2
      intro _ hv
      refine ⟨hv, h.cap, by rw [h.left]; rfl, ?_⟩
      show totL (d.files.set i _) 0 ≤ c
      rw [totL_set _ _ _ _ hi]
      have e : lenF ⟨(atN d.files i).name, (atN d.files i).base, (atN d.files i).pend ++ [w]⟩ = grownW w (lenF (atN d.files i)) := lenW_snoc _ _ _
      rw [e]
      have ht := h.tot
      unfold totD at ht h2
      rw [h.cap] at h2
      by_cases h3 : lenF (atN d.files i) < grownW w (lenF (atN d.files i))
      · have : ¬ c < totL d.files 0 + (grownW w (lenF (atN d.files i)) - lenF (atN d.files i)) := fun h4 => h2 ⟨hc, h3, h4⟩
        omega
      · omega
theorem CapI.change {c : Int} {d : Dk} (h : CapI c d) (hc : 0 < c) (o : Opr) (hk : o.kind % 10 ≤ 7) (he : (changeD d o).2 = 0) : CapI c (changeD d o).1 := by
  have hv := changeD_vld h.vld o he
  have hn : nextL d.left = -1 := by rw [h.left]; rfl
  have hp := h.vld.pos
  have ht : totL d.files 0 ≤ c := h.tot
  revert hv he
  unfold changeD
  dsimp only
  split
  · unfold createD
    split
    · rename_i h1; intro he _; exact absurd he h1
    · split
      · intro he; cases he
      · split
        · intro he; cases he
        · rename_i h1 h2 h3
          intro _ hv
          refine ⟨hv, h.cap, hn, ?_⟩
          show totL (addN d.files _) 0 ≤ c
          have := addN_tot h.vld.asc hp ⟨o.name, [], []⟩
          have e : lenF ⟨o.name, [], []⟩ = 0 := rfl
          omega
  · split
    · unfold appendD
      split
      · rename_i h1; intro he _; exact absurd he h1
      · rename_i h1
        intro he _
        obtain ⟨hv, _, _, hlo, _⟩ := atE_ok (Classical.byContradiction fun e => h1 e)
        exact written_cap h hc hlo (fitsApp _ _ (sized_of_vld hv hlo)) he
    · split
      · unfold putD
        split
        · rename_i h1; intro he _; exact absurd he h1
        · split
          · intro he; cases he
          · rename_i h1 h2
            intro he _
            obtain ⟨hv, _, _, hlo, _⟩ := atE_ok (Classical.byContradiction fun e => h1 e)
            exact written_cap h hc hlo ⟨show 0 ≤ o.off by omega, show o.off ≤ lenF _ by omega, fun h => by cases h⟩ he
      · split
        · unfold truncD
          split
          · rename_i h1; intro he _; exact absurd he h1
          · split
            · intro he; cases he
            · rename_i h1 h2
              intro he _
              obtain ⟨hv, _, _, hlo, _⟩ := atE_ok (Classical.byContradiction fun e => h1 e)
              exact written_cap h hc hlo ⟨show 0 ≤ o.off by omega, show o.off ≤ lenF _ by omega, fun _ => rfl⟩ he
        · split
          · unfold syncD
            split
            · rename_i h1; intro he _; exact absurd he h1
            · rename_i h1
              intro _ hv
              obtain ⟨hv0, _, _, hlo, _⟩ := atE_ok (Classical.byContradiction fun e => h1 e)
              refine ⟨hv, h.cap, hn, ?_⟩
              show totL (d.files.set _ _) 0 ≤ c
              rw [totL_set _ _ _ _ hlo]
              have e : lenF ⟨o.name, contF (atN d.files (lowN d.files o.name)), []⟩ = lenF (atN d.files (lowN d.files o.name)) := (lenF_cont (sized_of_vld hv0 hlo)).symm
              omega
          · split
            · unfold renameD
              split
              · intro he; cases he
              · split
                · rename_i h1; intro he _; exact absurd he h1
                · rename_i h0 h1
                  intro _ hv
                  obtain ⟨hv0, _, _, hlo, _⟩ := atE_ok (Classical.byContradiction fun e => h1 e)
                  refine ⟨hv, h.cap, hn, ?_⟩
                  have h3 := dropN_tot hp _ hlo
                  have h4 := addN_tot (hv0.asc.sublist (dropN_sub _ (lowN d.files o.name))) (fun f hf => hp f ((dropN_sub _ _).subset hf)) ⟨o.to, (atN d.files (lowN d.files o.name)).base, (atN d.files (lowN d.files o.name)).pend⟩
                  have e : lenF ⟨o.to, (atN d.files (lowN d.files o.name)).base, (atN d.files (lowN d.files o.name)).pend⟩ = lenF (atN d.files (lowN d.files o.name)) := rfl
                  show totL (addN _ _) 0 ≤ c
                  omega
            · split
              · unfold removeD
                split
                · rename_i h1; intro he _; exact absurd he h1
                · rename_i h1
                  intro _ hv
                  obtain ⟨hv0, _, _, hlo, _⟩ := atE_ok (Classical.byContradiction fun e => h1 e)
                  refine ⟨hv, h.cap, hn, ?_⟩
                  have h3 := dropN_tot hp _ hlo
                  have := hp _ (atN_mem hlo)
                  show totL (dropN _ _) 0 ≤ c
                  omega
              · split <;> (rename_i h1 h2 h3; omega)
/-- An append is refused for lack of room exactly where it does not fit. -/
theorem CapI.full {c : Int} {d : Dk} (h : CapI c d) (hc : 0 < c) (hc2 : c ≤ 256) (o : Opr) (hk : o.kind % 10 = 1 ∨ o.kind % 10 = 2) (hd : o.data.length ≤ 200) :
    ((changeD d o).2 = 9 ↔ (c < totD d + (o.data.length : Int) ∧ (changeD d o).2 ≠ 6 ∧ (changeD d o).2 ≠ 1)) := by
  have e : changeD d o = appendD d o.name o.data := by unfold changeD; dsimp only; rw [if_neg (by omega), if_pos hk]
  rw [e]
  unfold appendD
  split
  · rename_i h1
    have hr : atE d o.name = 1 ∨ atE d o.name = 6 := by
      have := readyE_le d o.name
      revert h1
      unfold atE readyE
      rw [h.left]
      intro h1
      split at h1
      · split at h1
        · rename_i h2 h3; left; simp [h2]
        · split at h1 <;> simp_all
      · split at h1 <;> simp_all
    dsimp only
    omega
  · rename_i h1
    obtain ⟨hv, _, _, hlo, _⟩ := atE_ok (Classical.byContradiction fun e => h1 e)
    have hp := h.vld.pos
    have h2 := len_le_tot hp hlo
    have h3 := hp _ (atN_mem hlo)
    have ht : totL d.files 0 ≤ c := h.tot
    unfold writtenD totD
    dsimp only
    have hg : grownW ⟨lenF (atN d.files (lowN d.files o.name)), o.data, false⟩ (lenF (atN d.files (lowN d.files o.name))) = lenF (atN d.files (lowN d.files o.name)) + (o.data.length : Int) := by
      unfold grownW; simp; omega
    rw [hg, h.cap, if_neg (by omega)]
    split
    · rename_i h4; dsimp only; omega
    · rename_i h4; dsimp only; omega
end Go.Proofs.YtkabcpmnbjllcaaDoor
