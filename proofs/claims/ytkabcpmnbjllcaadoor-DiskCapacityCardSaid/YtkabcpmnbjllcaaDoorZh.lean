/- Bounds on disks: what the walks ask of numbers and lengths. No program here. -/
import Derived.Test.YtkabcpmnbjllcaaDoorZg
namespace Go.Proofs.YtkabcpmnbjllcaaDoor

def I64 (n : Int) : Prop := -9223372036854775808 ≤ n ∧ n ≤ 9223372036854775807
structure LiteW (w : Wr) : Prop where
  off : I64 w.off
  data : w.data.length ≤ 2000000
structure LiteF (f : Fil) : Prop where
  name : f.name.length ≤ 1000
  base : f.base.length ≤ 2000000
  pend : f.pend.length ≤ 5000
  wr : ∀ w ∈ f.pend, LiteW w
structure LiteD (d : Dk) : Prop where
  cap : I64 d.cap
  left : I64 d.left
  len : d.files.length ≤ 1000
  fil : ∀ f ∈ d.files, LiteF f
/-- Numbers that fit; no more than k writes a file. -/
structure SmallD (d : Dk) (k : Nat) : Prop where
  cap : I64 d.cap
  left : I64 d.left
  pend : ∀ f ∈ d.files, f.pend.length ≤ k
theorem szW_lite : ∀ (ws : List Wr) (n : Int), 0 ≤ n → szW ws n = true → ∀ w ∈ ws, LiteW w
  | [], _, _, _ => fun w h => by cases h
  | x :: r, n, h0, h => by
    simp only [szW, Bool.and_eq_true, decide_eq_true_eq] at h
    obtain ⟨⟨h1, h2⟩, h3⟩ := h
    have h1 := (okW_iff x).1 h1
    have hg : 0 ≤ grownW x n := by unfold grownW; split <;> omega
    intro w hw
    rcases List.mem_cons.1 hw with e | e
    · subst e
      refine ⟨⟨by omega, by omega⟩, ?_⟩
      cases hc : w.cut
      · unfold grownW at h2
        rw [hc] at h2
        simp only [Bool.false_eq_true, if_false] at h2
        omega
      · rw [h1.2.2 hc]; exact Nat.zero_le _
    · exact szW_lite r _ hg h3 w e
theorem nameB_len {s : List UInt8} (h : nameB s = true) : 1 ≤ s.length ∧ s.length ≤ 40 := by
  unfold nameB at h
  simp only [Bool.and_eq_true, decide_eq_true_eq] at h
  exact ⟨h.1.2, h.2⟩
theorem VldD.lite {d : Dk} (h : VldD d) {k : Nat} (hs : SmallD d k) (hk : k ≤ 5000) : LiteD d := by
  refine ⟨hs.cap, hs.left, by have := h.len; omega, fun f hf => ?_⟩
  obtain ⟨h1, h2⟩ := h.ok f hf
  have h3 := (sizedF_iff f).1 h2
  have h4 := nameB_len h1
  exact ⟨by omega, by omega, by have := hs.pend f hf; omega, szW_lite _ _ (by omega) h3.2⟩
theorem nextL_i64 {l : Int} (h : I64 l) : I64 (nextL l) := by unfold nextL I64 at *; split <;> omega
theorem small_dk0 (k : Nat) : SmallD dk0 k := ⟨by unfold I64 dk0; simp, by unfold I64 dk0; simp, fun f h => by cases h⟩
theorem SmallD.more {d : Dk} {k m : Nat} (h : SmallD d k) (hk : k ≤ m) : SmallD d m := ⟨h.cap, h.left, fun f hf => Nat.le_trans (h.pend f hf) hk⟩
theorem SmallD.of {d : Dk} {k : Nat} (h : SmallD d k) {l : Int} (hl : I64 l) {fs : List Fil} {m : Nat} (hf : ∀ f ∈ fs, f.pend.length ≤ m) : SmallD ⟨d.cap, l, fs⟩ m := ⟨h.cap, hl, hf⟩
theorem atN_pend {d : Dk} {k : Nat} (h : SmallD d k) (i : Nat) : (atN d.files i).pend.length ≤ k := by
  by_cases hi : i < d.files.length
  · exact h.pend _ (atN_mem hi)
  · unfold atN; rw [List.getD_eq_getElem?_getD, List.getElem?_eq_none (by omega)]; exact Nat.zero_le _
theorem written_small {d : Dk} {k : Nat} (h : SmallD d k) (i : Nat) (w : Wr) : SmallD (writtenD d i w).1 (k + 1) := by
  unfold writtenD
  dsimp only
  split
  · exact small_dk0 _
  · split
    · exact small_dk0 _
    · refine h.of (nextL_i64 h.left) fun f hf => ?_
      rcases List.mem_or_eq_of_mem_set hf with e | e
      · have := h.pend f e; omega
      · rw [e]; dsimp only; rw [List.length_append]; have := atN_pend h i; simp; omega
theorem changeD_small {d : Dk} {k : Nat} (h : SmallD d k) (o : Opr) : SmallD (changeD d o).1 (k + 1) := by
  have h' := h.more (Nat.le_succ k)
  have hn := nextL_i64 h.left
  unfold changeD
  dsimp only
  split
  · unfold createD
    split
    · exact small_dk0 _
    · split
      · exact small_dk0 _
      · split
        · exact small_dk0 _
        · refine h.of hn fun f hf => ?_
          rcases addN_mem hf with e | e
          · rw [e]; exact Nat.zero_le _
          · exact h'.pend f e
  · split
    · unfold appendD
      split
      · exact small_dk0 _
      · exact written_small h _ _
    · split
      · unfold putD
        split
        · exact small_dk0 _
        · split
          · exact small_dk0 _
          · exact written_small h _ _
      · split
        · unfold truncD
          split
          · exact small_dk0 _
          · split
            · exact small_dk0 _
            · exact written_small h _ _
        · split
          · unfold syncD
            split
            · exact small_dk0 _
            · refine h.of hn fun f hf => ?_
              rcases List.mem_or_eq_of_mem_set hf with e | e
              · exact h'.pend f e
              · rw [e]; exact Nat.zero_le _
          · split
            · unfold renameD
              split
              · exact small_dk0 _
              · split
                · exact small_dk0 _
                · refine h.of hn fun f hf => ?_
                  rcases addN_mem hf with e | e
                  · rw [e]; have := atN_pend h' (lowN d.files o.name); exact this
                  · exact h'.pend f ((dropN_sub _ _).subset e)
            · split
              · unfold removeD
                split
                · exact small_dk0 _
                · exact h.of hn fun f hf => h'.pend f ((dropN_sub _ _).subset hf)
              · split
                · unfold crashD
                  split
                  · refine h.of (by unfold I64; omega) fun f hf => ?_
                    obtain ⟨x, _, rfl⟩ := List.mem_map.1 hf
                    exact Nat.zero_le _
                  · exact small_dk0 _
                · unfold flipD
                  split
                  · exact small_dk0 _
                  · split
                    · exact small_dk0 _
                    · dsimp only
                      split
                      · exact small_dk0 _
                      · split
                        · exact small_dk0 _
                        · refine h.of h.left fun f hf => ?_
                          rcases List.mem_or_eq_of_mem_set hf with e | e
                          · exact h'.pend f e
                          · rw [e]; exact atN_pend h' _
theorem madeL_small : ∀ (l : List Opr) (d : Dk) (k : Nat), SmallD d k → SmallD (madeL l d) (k + l.length)
  | [], _, _, h => h
  | o :: l, d, k, h => by
    show SmallD (madeL l (if (changeD d (cutO o)).2 = 0 then (changeD d (cutO o)).1 else d)) _
    have := madeL_small l (if (changeD d (cutO o)).2 = 0 then (changeD d (cutO o)).1 else d) (k + 1) (by
      split
      · exact changeD_small h _
      · exact h.more (Nat.le_succ k))
    rw [List.length_cons, show k + (l.length + 1) = k + 1 + l.length by omega]
    exact this
theorem madeD_small {limit left : Int} (h1 : I64 limit) (h2 : I64 left) (l : List Opr) : SmallD (madeD limit left l) 14 := by
  have h := madeL_small (l.take 14) (armD (newD limit) left) 0 ⟨by unfold I64 armD newD at *; dsimp only; omega, by unfold I64 armD at *; dsimp only; omega, fun f hf => by cases hf⟩
  exact h.more (by rw [List.length_take]; omega)
theorem madeD_lite {limit left : Int} (h1 : I64 limit) (h2 : I64 left) (l : List Opr) : LiteD (madeD limit left l) := (madeD_vld limit left l).lite (madeD_small h1 h2 l) (by decide)
end Go.Proofs.YtkabcpmnbjllcaaDoor
