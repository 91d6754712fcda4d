/- The operations of a disk keep it valid. No program here. -/
import Derived.Test.YtkabcpmnbjllcaaDoorZc
namespace Go.Proofs.YtkabcpmnbjllcaaDoor

theorem sized_of_vld {d : Dk} (h : VldD d) {i : Nat} (hi : i < d.files.length) : sizedF (atN d.files i) = true := (h.ok _ (atN_mem hi)).2
theorem name_of_vld {d : Dk} (h : VldD d) {i : Nat} (hi : i < d.files.length) : nameB (atN d.files i).name = true := (h.ok _ (atN_mem hi)).1
theorem lenF_bounds {f : Fil} (h : sizedF f = true) : 0 ≤ lenF f ∧ lenF f ≤ 1048576 := by
  have h2 := (sizedF_iff f).1 h
  exact lenW_bounds f.pend f.base.length (by omega) h2.1 h2.2
theorem lenF_cont {f : Fil} (h : sizedF f = true) : lenF f = ((contF f).length : Int) := (contF_length h).symm
theorem sizedF_app {f : Fil} {w : Wr} (h : sizedF f = true) (hw : okW w = true) (hl : grownW w (lenF f) ≤ 1048576) : sizedF ⟨f.name, f.base, f.pend ++ [w]⟩ = true := by
  have h2 := (sizedF_iff f).1 h
  refine (sizedF_iff _).2 ⟨h2.1, ?_⟩
  rw [szW_snoc, h2.2, hw]
  simpa [lenF] using hl
theorem readyE_le (d : Dk) (s : List UInt8) : readyE d s = 0 ∨ readyE d s = 1 ∨ readyE d s = 13 := by
  unfold readyE; split
  · exact .inr (.inl rfl)
  · split <;> simp
theorem VldD.add {d : Dk} (h : VldD d) {f : Fil} (hn : nameB f.name = true) (hs : sizedF f = true) {l : Int} (hl : -1 ≤ l) {fs : List Fil} (hf : fs.Sublist d.files) (hlen : (addN fs f).length ≤ 256) : VldD ⟨d.cap, l, addN fs f⟩ := by
  refine ⟨h.cap, hl, hlen, fun x hx => ?_, addN_asc (h.asc.sublist hf) f⟩
  rcases addN_mem hx with e | e
  · rw [e]; exact ⟨hn, hs⟩
  · exact h.ok x (hf.subset e)
theorem createD_vld {d : Dk} {s : List UInt8} (h : (createD d s).2 = 0) : VldD (createD d s).1 := by
  unfold createD at h ⊢
  by_cases h1 : readyE d s ≠ 0
  · rw [if_pos h1] at h; exact absurd h h1
  · rw [if_neg h1] at h ⊢
    have h1 : readyE d s = 0 := by simpa using h1
    obtain ⟨hv, hn, hl⟩ := readyE_ok h1
    by_cases h2 : hasN d.files s = true
    · rw [if_pos h2] at h; cases h
    · rw [if_neg h2] at h ⊢
      by_cases h3 : d.files.length = 256
      · rw [if_pos h3] at h; cases h
      · rw [if_neg h3]
        have h4 := hv.len
        have h5 := addN_length d.files ⟨s, [], []⟩
        exact hv.add (f := ⟨s, [], []⟩) hn rfl (nextL_ok hv.left) (List.Sublist.refl _) (by omega)
/-- What a write must be. -/
structure FitsW (w : Wr) (f : Fil) : Prop where
  low : 0 ≤ w.off
  high : w.off ≤ lenF f
  cut : w.cut = true → w.data = []
theorem writtenD_vld {d : Dk} (hv : VldD d) {i : Nat} (hi : i < d.files.length) {w : Wr} (hw : FitsW w (atN d.files i)) (h : (writtenD d i w).2 = 0) : VldD (writtenD d i w).1 := by
  have hs := sized_of_vld hv hi
  have hb := lenF_bounds hs
  unfold writtenD at h ⊢
  by_cases h1 : 1048576 < w.off + (w.data.length : Int)
  · simp only [if_pos h1] at h; cases h
  · simp only [if_neg h1] at h ⊢
    split at h
    · cases h
    · rename_i h2
      rw [if_neg h2]
      have h3 := hw.low
      have h4 := hw.high
      refine hv.set hi (f := ⟨(atN d.files i).name, (atN d.files i).base, (atN d.files i).pend ++ [w]⟩) rfl (sizedF_app hs ((okW_iff w).2 ⟨h3, by omega, hw.cut⟩) ?_) (nextL_ok hv.left)
      unfold grownW
      split <;> omega
theorem fitsApp (f : Fil) (b : List UInt8) (hs : sizedF f = true) : FitsW ⟨lenF f, b, false⟩ f := ⟨(lenF_bounds hs).1, Int.le_refl _, fun h => by cases h⟩
theorem appendD_vld {d : Dk} {s b : List UInt8} (h : (appendD d s b).2 = 0) : VldD (appendD d s b).1 := by
  unfold appendD at h ⊢
  by_cases h1 : atE d s ≠ 0
  · rw [if_pos h1] at h; exact absurd h h1
  · rw [if_neg h1] at h ⊢
    obtain ⟨hv, hn, hl, hi, he⟩ := atE_ok (by simpa using h1)
    exact writtenD_vld hv hi (fitsApp _ b (sized_of_vld hv hi)) h
theorem putD_vld {d : Dk} {s b : List UInt8} {off : Int} (h : (putD d s off b).2 = 0) : VldD (putD d s off b).1 := by
  unfold putD at h ⊢
  by_cases h1 : atE d s ≠ 0
  · rw [if_pos h1] at h; exact absurd h h1
  · rw [if_neg h1] at h ⊢
    obtain ⟨hv, hn, hl, hi, he⟩ := atE_ok (by simpa using h1)
    split at h
    · cases h
    · rename_i h2
      rw [if_neg h2]
      exact writtenD_vld hv hi ⟨by dsimp only; omega, by dsimp only; omega, fun h => by cases h⟩ h
theorem truncD_vld {d : Dk} {s : List UInt8} {n : Int} (h : (truncD d s n).2 = 0) : VldD (truncD d s n).1 := by
  unfold truncD at h ⊢
  by_cases h1 : atE d s ≠ 0
  · rw [if_pos h1] at h; exact absurd h h1
  · rw [if_neg h1] at h ⊢
    obtain ⟨hv, hn, hl, hi, he⟩ := atE_ok (by simpa using h1)
    split at h
    · cases h
    · rename_i h2
      rw [if_neg h2]
      exact writtenD_vld hv hi ⟨by dsimp only; omega, by dsimp only; omega, fun _ => rfl⟩ h
theorem syncD_vld {d : Dk} {s : List UInt8} (h : (syncD d s).2 = 0) : VldD (syncD d s).1 := by
  unfold syncD at h ⊢
  by_cases h1 : atE d s ≠ 0
  · rw [if_pos h1] at h; exact absurd h h1
  · rw [if_neg h1]
    obtain ⟨hv, hn, hl, hi, he⟩ := atE_ok (by simpa using h1)
    have := contF_le (atN d.files (lowN d.files s))
    exact hv.set hi (f := ⟨s, contF (atN d.files (lowN d.files s)), []⟩) he.symm ((sizedF_iff _).2 ⟨by dsimp only; omega, rfl⟩) (nextL_ok hv.left)
theorem removeD_vld {d : Dk} {s : List UInt8} (h : (removeD d s).2 = 0) : VldD (removeD d s).1 := by
  unfold removeD at h ⊢
  by_cases h1 : atE d s ≠ 0
  · rw [if_pos h1] at h; exact absurd h h1
  · rw [if_neg h1]
    obtain ⟨hv, hn, hl, hi, he⟩ := atE_ok (by simpa using h1)
    exact hv.drop _ (nextL_ok hv.left)
theorem dropN_sub (l : List Fil) (i : Nat) : (dropN l i).Sublist l := by
  unfold dropN
  have := List.Sublist.append (List.Sublist.refl (l.take i)) (show (l.drop (i + 1)).Sublist (l.drop i) by rw [← List.drop_drop]; exact List.drop_sublist 1 _)
  rwa [List.take_append_drop] at this
theorem dropN_length {l : List Fil} {i : Nat} (h : i < l.length) : (dropN l i).length + 1 = l.length := by
  unfold dropN; rw [List.length_append, List.length_take, List.length_drop]; omega
theorem renameD_vld {d : Dk} {s t : List UInt8} (h : (renameD d s t).2 = 0) : VldD (renameD d s t).1 := by
  unfold renameD at h ⊢
  by_cases h0 : (!nameB t) = true
  · rw [if_pos h0] at h; cases h
  · rw [if_neg h0] at h ⊢
    by_cases h1 : atE d s ≠ 0
    · rw [if_pos h1] at h; exact absurd h h1
    · rw [if_neg h1]
      obtain ⟨hv, hn, hl, hi, he⟩ := atE_ok (by simpa using h1)
      have h2 := dropN_length hi
      have h3 := hv.len
      have h4 := addN_length (dropN d.files (lowN d.files s)) ⟨t, (atN d.files (lowN d.files s)).base, (atN d.files (lowN d.files s)).pend⟩
      exact hv.add (f := ⟨t, (atN d.files (lowN d.files s)).base, (atN d.files (lowN d.files s)).pend⟩) (by simpa using h0) (sized_of_vld hv hi) (nextL_ok hv.left) (dropN_sub _ _) (by omega)
theorem leftF_le {f : Fil} (hs : sizedF f = true) (k : Kp) : (leftF f k).length ≤ 1048576 := by
  have h2 := (sizedF_iff f).1 hs
  have hb := contF_le ⟨f.name, f.base, f.pend.take (cutN k.wri f.pend.length)⟩
  unfold leftF
  dsimp only
  generalize cutN k.wri f.pend.length = n at *
  split
  · exact hb
  · rename_i w hw
    split
    · exact hb
    · rename_i hc
      split
      · exact hb
      · have hlt : n < f.pend.length := (List.getElem?_eq_some_iff.1 hw).1
        have e : f.pend.take (n + 1) = f.pend.take n ++ [w] := by rw [List.take_add_one, hw]; rfl
        have h3 := szW_take f.pend f.base.length (n + 1) h2.2
        rw [e, szW_snoc] at h3
        simp only [Bool.and_eq_true, decide_eq_true_eq] at h3
        obtain ⟨⟨h4, h5⟩, h6⟩ := h3
        have hs' : sizedF ⟨f.name, f.base, f.pend.take n⟩ = true := (sizedF_iff _).2 ⟨h2.1, h4⟩
        have hl := contF_length hs'
        have h7 := (okW_iff w).1 h5
        have ha := appl_length ⟨w.off, w.data.take (cutN k.torn w.data.length), false⟩ (contF ⟨f.name, f.base, f.pend.take n⟩) h7.1
        rw [hl] at ha
        dsimp only at ha
        have hg : grownW ⟨w.off, w.data.take (cutN k.torn w.data.length), false⟩ (lenW (f.pend.take n) f.base.length) ≤ grownW w (lenW (f.pend.take n) f.base.length) := by
          unfold grownW
          rw [if_neg hc, if_neg (by simp)]
          dsimp only
          rw [List.length_take]
          omega
        omega
theorem crashD_vld {d : Dk} (hv : VldD d) (l : List Kp) : VldD (crashD d l) := by
  unfold crashD
  rw [if_pos ((validD_iff d).2 hv)]
  refine ⟨hv.cap, Int.le_refl _, by simpa using hv.len, fun f hf => ?_, ?_⟩
  · obtain ⟨x, hx, rfl⟩ := List.mem_map.1 hf
    have := leftF_le (hv.ok x hx).2 (keepOf l x.name)
    exact ⟨(hv.ok x hx).1, (sizedF_iff _).2 ⟨by dsimp only; omega, rfl⟩⟩
  · rw [List.pairwise_map]; exact hv.asc
theorem xorAt_length (b : List UInt8) (i k : Nat) : (xorAt b i k).length = b.length := by unfold xorAt; rw [List.length_set]
theorem flipD_vld {d : Dk} {s : List UInt8} {bit : Int} (h : (flipD d s bit).2 = 0) : VldD (flipD d s bit).1 := by
  unfold flipD at h ⊢
  by_cases h1 : (!(validD d && nameB s)) = true
  · rw [if_pos h1] at h; cases h
  · rw [if_neg h1] at h ⊢
    simp only [Bool.not_eq_true', Bool.and_eq_false_iff, not_or, Bool.not_eq_false] at h1
    have hv := (validD_iff d).1 h1.1
    by_cases h2 : (!hasN d.files s) = true
    · rw [if_pos h2] at h; cases h
    · rw [if_neg h2] at h ⊢
      have h2 : hasN d.files s = true := by simpa using h2
      obtain ⟨hi, he⟩ := (hasN_iff hv.asc s).1 h2
      dsimp only at h ⊢
      split at h
      · cases h
      · rename_i h3
        rw [if_neg h3]
        split at h
        · cases h
        · rename_i h4
          rw [if_neg h4]
          have hs := sized_of_vld hv hi
          refine hv.set hi (f := ⟨(atN d.files (lowN d.files s)).name, xorAt (atN d.files (lowN d.files s)).base (bit / 8).toNat (bit % 8).toNat, (atN d.files (lowN d.files s)).pend⟩) rfl ?_ hv.left
          have h5 := (sizedF_iff _).1 hs
          refine (sizedF_iff _).2 ⟨?_, ?_⟩
          · dsimp only; rw [xorAt_length]; exact h5.1
          · dsimp only; rw [xorAt_length]; exact h5.2
theorem changeD_vld {d : Dk} (hv : VldD d) (o : Opr) (h : (changeD d o).2 = 0) : VldD (changeD d o).1 := by
  unfold changeD at h ⊢
  dsimp only at h ⊢
  split at h
  · rename_i e; rw [if_pos e]; exact createD_vld h
  · rename_i e0; rw [if_neg e0]
    split at h
    · rename_i e; rw [if_pos e]; exact appendD_vld h
    · rename_i e1; rw [if_neg e1]
      split at h
      · rename_i e; rw [if_pos e]; exact putD_vld h
      · rename_i e2; rw [if_neg e2]
        split at h
        · rename_i e; rw [if_pos e]; exact truncD_vld h
        · rename_i e3; rw [if_neg e3]
          split at h
          · rename_i e; rw [if_pos e]; exact syncD_vld h
          · rename_i e4; rw [if_neg e4]
            split at h
            · rename_i e; rw [if_pos e]; exact renameD_vld h
            · rename_i e5; rw [if_neg e5]
              split at h
              · rename_i e; rw [if_pos e]; exact removeD_vld h
              · rename_i e6; rw [if_neg e6]
                split at h
                · rename_i e; rw [if_pos e]; exact crashD_vld hv o.keep
                · rename_i e7; rw [if_neg e7]; exact flipD_vld h
theorem armD_new (limit left : Int) : VldD (armD (newD limit) left) := ⟨by unfold armD newD; dsimp only; omega, by unfold armD; dsimp only; omega, Nat.zero_le _, fun f hf => (by cases hf), List.Pairwise.nil⟩
theorem madeL_vld : ∀ (l : List Opr) (d : Dk), VldD d → VldD (madeL l d)
  | [], _, h => h
  | o :: l, d, h => by
    show VldD (madeL l (if (changeD d (cutO o)).2 = 0 then (changeD d (cutO o)).1 else d))
    refine madeL_vld l _ ?_
    split
    · rename_i e; exact changeD_vld h _ e
    · exact h
theorem madeD_vld (limit left : Int) (l : List Opr) : VldD (madeD limit left l) := madeL_vld _ _ (armD_new limit left)
end Go.Proofs.YtkabcpmnbjllcaaDoor
