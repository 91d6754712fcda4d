/- Disks without a limit and with power, in plain Lean: how long their files are; what is synced outlives a crash. No program here. -/
import Derived.Test.YtkabcpmnbjllcaaDoorDkb
import Derived.Test.YtkabcpmnbjllcaaDoorKA
namespace Go.Proofs.YtkabcpmnbjllcaaDoor

/-- No content of the file, now or at any moment before, has more than B bytes. -/
structure TinyF (B : Nat) (f : Fil) : Prop where
  base : f.base.length ≤ B
  pend : ∀ w ∈ f.pend, 0 ≤ w.off ∧ w.off + (w.data.length : Int) ≤ B
theorem lenW_top {B : Nat} : ∀ (ws : List Wr) (n : Int), n ≤ B → (∀ w ∈ ws, 0 ≤ w.off ∧ w.off + (w.data.length : Int) ≤ B) → lenW ws n ≤ B
  | [], _, h, _ => h
  | w :: r, n, h, hw => by
    show lenW r (grownW w n) ≤ B
    refine lenW_top r _ ?_ fun x hx => hw x (.tail _ hx)
    have := hw w (.head _)
    unfold grownW
    split <;> omega
theorem TinyF.len {B : Nat} {f : Fil} (h : TinyF B f) : lenF f ≤ B := lenW_top _ _ (by have := h.base; omega) h.pend
theorem contF_top {B : Nat} {f : Fil} (h : TinyF B f) : (contF f).length ≤ B := by
  by_cases hs : sizedF f = true
  · have := lenF_cont hs
    have := h.len
    omega
  · unfold contF; rw [if_neg hs]; exact Nat.zero_le _
theorem leftF_top {B : Nat} {f : Fil} (h : TinyF B f) (k : Kp) : (leftF f k).length ≤ B := by
  have hb : ∀ n, (contF ⟨f.name, f.base, f.pend.take n⟩).length ≤ B := fun n => contF_top ⟨h.base, fun w hw => h.pend w (List.mem_of_mem_take hw)⟩
  unfold leftF
  dsimp only
  split
  · exact hb _
  · rename_i w hw
    have hp := h.pend w (List.mem_of_getElem? hw)
    split
    · exact hb _
    · split
      · exact hb _
      · unfold appl
        dsimp only
        rw [if_neg (by simp), putW_length]
        have h1 := hb (cutN k.wri f.pend.length)
        have h2 : (w.data.take (cutN k.torn w.data.length)).length ≤ w.data.length := by rw [List.length_take]; omega
        omega
/-- No limit, power for ever, small files. -/
structure PlD (B : Nat) (d : Dk) : Prop where
  left : d.left = -1
  cap : d.cap = 0
  fil : ∀ f ∈ d.files, TinyF B f
theorem TinyF.more {B B' : Nat} {f : Fil} (h : TinyF B f) (hB : B ≤ B') : TinyF B' f := ⟨Nat.le_trans h.base hB, fun w hw => by have := h.pend w hw; omega⟩
theorem TinyF.app {B B' : Nat} {f : Fil} (h : TinyF B f) (hB : B ≤ B') {w : Wr} (h0 : 0 ≤ w.off) (h1 : w.off + (w.data.length : Int) ≤ B') : TinyF B' ⟨f.name, f.base, f.pend ++ [w]⟩ :=
  ⟨(h.more hB).base, fun x hx => by
    rcases List.mem_append.1 hx with hx | hx
    · exact (h.more hB).pend x hx
    · obtain rfl := List.mem_singleton.1 hx; exact ⟨h0, h1⟩⟩
theorem PlD.next {B : Nat} {d : Dk} (h : PlD B d) : nextL d.left = -1 := by rw [h.left]; rfl
theorem PlD.set {B B' : Nat} {d : Dk} (h : PlD B d) (hB : B ≤ B') {i : Nat} {f : Fil} (hf : TinyF B' f) {l : Int} (hl : l = -1) : PlD B' ⟨d.cap, l, d.files.set i f⟩ :=
  ⟨hl, h.cap, fun x hx => by
    rcases List.mem_or_eq_of_mem_set hx with hx | hx
    · exact (h.fil x hx).more hB
    · rw [hx]; exact hf⟩
theorem PlD.tiny {B : Nat} {d : Dk} (h : PlD B d) (i : Nat) : TinyF B (atN d.files i) := by
  by_cases hi : i < d.files.length
  · exact h.fil _ (atN_mem hi)
  · unfold atN
    rw [List.getD_eq_getElem?_getD, List.getElem?_eq_none (by omega)]
    exact ⟨Nat.zero_le _, fun w hw => by cases hw⟩
theorem PlD.written {B B' : Nat} {d : Dk} (h : PlD B d) (hB : B ≤ B') (i : Nat) {w : Wr} (h0 : 0 ≤ w.off) (h1 : w.off + (w.data.length : Int) ≤ B') (he : (writtenD d i w).2 = 0) : PlD B' (writtenD d i w).1 := by
  revert he
  unfold writtenD
  dsimp only
  split
  · intro he; cases he
  · split
    · intro he; cases he
    · intro _; exact h.set hB ((h.tiny i).app hB h0 h1) h.next
theorem PlD.change {B : Nat} {d : Dk} (h : PlD B d) (hv : VldD d) (o : Opr) (hd : o.data.length ≤ 200) (he : (changeD d o).2 = 0) : PlD (B + 200) (changeD d o).1 := by
  have hB : B ≤ B + 200 := by omega
  have hl := fun i => (h.tiny i).len
  have hok : ∀ s, ¬ atE d s ≠ 0 → 0 ≤ lenF (atN d.files (lowN d.files s)) := fun s hs => by
    obtain ⟨hv, _, _, hlo, _⟩ := atE_ok (Classical.byContradiction fun e => hs e)
    exact (lenF_bounds (sized_of_vld hv hlo)).1
  revert he
  unfold changeD
  dsimp only
  split
  · unfold createD
    split
    · rename_i h1; intro he; exact absurd he h1
    · split
      · intro he; cases he
      · split
        · intro he; cases he
        · intro _
          refine ⟨h.next, h.cap, fun f hf => ?_⟩
          rcases addN_mem hf with hf | hf
          · rw [hf]; exact ⟨Nat.zero_le _, fun w hw => by cases hw⟩
          · exact (h.fil f hf).more hB
  · split
    · unfold appendD
      split
      · rename_i h1; intro he; exact absurd he h1
      · rename_i h1
        intro he
        have := hl (lowN d.files o.name)
        exact h.written hB _ (hok _ h1) (by dsimp only; omega) he
    · split
      · unfold putD
        split
        · rename_i h1; intro he; exact absurd he h1
        · split
          · intro he; cases he
          · intro he
            have := hl (lowN d.files o.name)
            exact h.written hB _ (by dsimp only; omega) (by dsimp only; omega) he
      · split
        · unfold truncD
          split
          · rename_i h1; intro he; exact absurd he h1
          · split
            · intro he; cases he
            · intro he
              have := hl (lowN d.files o.name)
              exact h.written hB _ (by dsimp only; omega) (by simp; omega) he
        · split
          · unfold syncD
            split
            · rename_i h1; intro he; exact absurd he h1
            · intro _
              exact h.set hB ⟨Nat.le_trans (contF_top (h.tiny _)) hB, fun w hw => by cases hw⟩ h.next
          · split
            · unfold renameD
              split
              · intro he; cases he
              · split
                · rename_i h1; intro he; exact absurd he h1
                · intro _
                  refine ⟨h.next, h.cap, fun f hf => ?_⟩
                  rcases addN_mem hf with hf | hf
                  · rw [hf]; exact ⟨((h.tiny _).more hB).base, ((h.tiny _).more hB).pend⟩
                  · exact (h.fil f ((dropN_sub _ _).subset hf)).more hB
            · split
              · unfold removeD
                split
                · rename_i h1; intro he; exact absurd he h1
                · intro _
                  exact ⟨h.next, h.cap, fun f hf => (h.fil f ((dropN_sub _ _).subset hf)).more hB⟩
              · split
                · intro _
                  unfold crashD
                  rw [if_pos ((validD_iff d).2 hv)]
                  refine ⟨rfl, h.cap, fun f hf => ?_⟩
                  obtain ⟨g, hg, rfl⟩ := List.mem_map.1 hf
                  exact ⟨Nat.le_trans (leftF_top (h.fil g hg) _) hB, fun w hw => by cases hw⟩
                · unfold flipD
                  split
                  · intro he; cases he
                  · split
                    · intro he; cases he
                    · dsimp only
                      split
                      · intro he; cases he
                      · split
                        · intro he; cases he
                        · intro _
                          refine h.set hB ?_ h.left
                          have ht := (h.tiny (lowN d.files o.name)).more hB
                          exact ⟨Nat.le_trans (Nat.le_of_eq (xorAt_length _ _ _)) ht.base, ht.pend⟩
theorem PlD.madeL : ∀ (l : List Opr) (d : Dk) (B : Nat), VldD d → PlD B d → PlD (B + 200 * l.length) (madeL l d)
  | [], _, _, _, h => h
  | o :: l, d, B, hv, h => by
    show PlD _ (Go.Proofs.YtkabcpmnbjllcaaDoor.madeL l (if (changeD d (cutO o)).2 = 0 then (changeD d (cutO o)).1 else d))
    have hB : B + 200 * (o :: l).length = (B + 200) + 200 * l.length := by rw [List.length_cons]; omega
    rw [hB]
    split
    · rename_i e
      exact PlD.madeL l _ _ (changeD_vld hv _ e) (h.change hv _ (by show (o.data.take 200).length ≤ 200; rw [List.length_take]; omega) e)
    · exact PlD.madeL l _ _ hv ⟨h.left, h.cap, fun f hf => (h.fil f hf).more (by omega)⟩
theorem made_plain (l : List Opr) : PlD 2800 (madeD 0 (-1) l) := by
  have h := PlD.madeL (l.take 14) (armD (newD 0) (-1)) 0 (armD_new 0 (-1)) ⟨rfl, rfl, fun f hf => by cases hf⟩
  have hl : (l.take 14).length ≤ 14 := by rw [List.length_take]; omega
  exact ⟨h.left, h.cap, fun f hf => (h.fil f hf).more (by omega)⟩
/-- A file that is there. -/
theorem file_at {d : Dk} (hv : VldD d) (hl : d.left ≠ 0) {i : Nat} (hi : i < d.files.length) {s : List UInt8} (hn : (atN d.files i).name = s) :
    lowN d.files s = i ∧ atE d s = 0 ∧ sizeD d s = (((contF (atN d.files i)).length : Int), 0) ∧ ∀ n : Nat, n ≤ (contF (atN d.files i)).length → readD d s 0 (n : Int) = ((contF (atN d.files i)).take n, 0) := by
  have hlo := lowN_eq hv.asc hi hn
  have hs := sized_of_vld hv hi
  have hnb : nameB s = true := hn ▸ name_of_vld hv hi
  have hh : hasN d.files s = true := (hasN_iff hv.asc s).2 ⟨by rw [hlo]; exact hi, by rw [hlo]; exact hn⟩
  have he := atE_of ((validD_iff d).2 hv) hnb hl hh
  refine ⟨hlo, he, ?_, fun n h => ?_⟩
  · unfold sizeD
    rw [if_neg (by simp [he]), hlo, lenF_cont hs]
  · unfold readD
    rw [if_neg (by simp [he]), hlo]
    dsimp only
    rw [if_neg (by omega)]
    rfl
theorem atN_set_eq {l : List Fil} {i : Nat} (hi : i < l.length) (f : Fil) : atN (l.set i f) i = f := by
  unfold atN
  rw [List.getD_eq_getElem?_getD, List.getElem?_set]
  simp [hi]
theorem atN_set_ne {l : List Fil} {i j : Nat} (h : i ≠ j) (f : Fil) : atN (l.set i f) j = atN l j := by
  unfold atN
  rw [List.getD_eq_getElem?_getD, List.getD_eq_getElem?_getD, List.getElem?_set_ne h]
end Go.Proofs.YtkabcpmnbjllcaaDoor
