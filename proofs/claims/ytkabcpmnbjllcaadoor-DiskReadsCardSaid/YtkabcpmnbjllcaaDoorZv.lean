/- What the operations of the disk share. -/
import Derived.Test.YtkabcpmnbjllcaaDoorZu
namespace Go.Proofs.YtkabcpmnbjllcaaDoor
open Go.RowKit

theorem BlkD.set {W : World} {b : Nat} (h : BlkD W b) (g i : Nat) (u : Value) : BlkD (W.setCell ⟨g, i, none⟩ u) b := by
  obtain ⟨cs, fz, h⟩ := h
  by_cases e : b = g
  · subst e
    refine ⟨cs.setIfInBounds i u, fz, ?_⟩
    rw [setCell_eq_setRow W b i cs 33 fz u h]
    exact setRow_heap W b cs _ 33 fz h
  · exact ⟨cs, fz, by rw [Below.heap_setCell W ⟨g, i, none⟩ u b e]; exact h⟩
theorem BlkD.all3 {W : World} {b : Nat} (h : BlkD W b) (g : Nat) (x y z : Value) : BlkD (((W.setCell ⟨g, 0, none⟩ x).setCell ⟨g, 1, none⟩ y).setCell ⟨g, 2, none⟩ z) b :=
  ((h.set g 0 x).set g 1 y).set g 2 z
theorem twoBlk (w : World) (o o' : Obj) (ho : ∃ cs, o = .cells cs 33) (ho' : ∃ cs, o' = .cells cs 33) : BlkD ((w.alloc o).alloc o') w.heap.size ∧ BlkD ((w.alloc o).alloc o') (w.heap.size + 1) := by
  obtain ⟨c1, rfl⟩ := ho
  obtain ⟨c2, rfl⟩ := ho'
  constructor
  · refine ⟨c1, (0, 0), ?_⟩
    rw [Below.block ((Below.refl (w.alloc (.cells c1 33)).heap.size _).alloc (Nat.le_refl _) _) w.heap.size (by simp)]
    exact heap_alloc_new w _
  · refine ⟨c2, (0, 0), ?_⟩
    have := heap_alloc_new (w.alloc (.cells c1 33)) (.cells c2 33)
    simpa using this
theorem BlkD.grown {W W' : World} {b B : Nat} {e : TypeId} {sz n : Nat} {v : Value} {xs : List Value} (h : BlkD W b) (ho : W.ownsRow B e sz v n xs) (hne : e ≠ 33) (hg : W.grownBy W' v.ownBlock) : BlkD W' b := by
  have h2 := h.ne ho hne
  obtain ⟨cs, fz, h⟩ := h
  exact ⟨cs, fz, by rw [hg.block b (Array.getElem?_eq_some_iff.1 h).1 (fun e => h2 e.symm)]; exact h⟩
theorem BoxD.grown {W W' : World} {b B : Nat} {c l : Int} {fv : Value} {e : TypeId} {sz n : Nat} {v : Value} {xs : List Value} (h : BoxD W b c l fv) (hd : BlkD W b) (ho : W.ownsRow B e sz v n xs) (hne : e ≠ 33) (hg : W.grownBy W' v.ownBlock) : BoxD W' b c l fv :=
  h.of_block (hg.block b h.lt (fun e => hd.ne ho hne e.symm))
/-- The files' parts, when the row of files has been made anew. -/
theorem OwnFs.parts {W W' W2 : World} {B B1 b0 : Nat} {v : Value} {es : List FE} {T : Nat → Nat} (h : OwnFs W B v es T es.length) (hg : W.grownBy W' v.ownBlock) (hk : KeepX b0 B1 W' W2) (hB1 : B1 ≤ T 0) (hT : T es.length ≤ b0 ∨ b0 + 2 ≤ T 0) (p : FE) (hp : p ∈ es) : RdB W2 p.2.1 p.1.base ∧ RdW W2 p.2.2 p.1.pend := by
  obtain ⟨j, hj, rfl⟩ := List.getElem_of_mem hp
  have h1 := (h.grown hg j hj).2
  rw [List.getD_eq_getElem?_getD, List.getElem?_eq_getElem hj] at h1
  refine h1 W2 fun b h2 h3 => ?_
  have h4 := h.mono (j + 1) es.length (by omega) (Nat.le_refl _)
  have h5 := h.top
  have h6 := hg.size
  have h7 := h.mono 0 j (Nat.zero_le _) (by omega)
  exact hk.same b (by omega) (by omega) (by omega) (by omega)
theorem rdF_row {W : World} {B : Nat} {T : TypeId} {v : Value} {n : Nat} {es : List FE} (h : W.ownsRow B T 3 v n (es.flatMap filC)) (hp : ∀ p ∈ es, RdB W p.2.1 p.1.base ∧ RdW W p.2.2 p.1.pend) : RdF W v (es.map (·.1)) :=
  ⟨es, rfl, own_rds (fun _ _ => rfl) (by decide) h, fun p hq => (hp p hq).1, fun p hq => (hp p hq).2⟩
theorem filC_take (es : List FE) (k : Nat) : (es.flatMap filC).take (k * 3) = (es.take k).flatMap filC := (flat_take 3 filC es (fun _ => rfl) k).symm
theorem filC_drop (es : List FE) (k : Nat) : (es.flatMap filC).drop (k * 3) = (es.drop k).flatMap filC := (flat_drop 3 filC es (fun _ => rfl) k).symm
theorem OwnFs.one {W : World} {B k : Nat} {v : Value} {es : List FE} {T : Nat → Nat} (h : OwnFs W B v es T k) (hk : k = es.length) : ∀ u ∈ es.flatMap filC, u.oneCell' = true := by
  subst hk
  refine fil_one (w := W) (fun p hp => ?_) fun p hp => ?_
  all_goals
    obtain ⟨j, hj, rfl⟩ := List.getElem_of_mem hp
    have := (h.fil j hj).1.rd
    rw [List.getD_eq_getElem?_getD, List.getElem?_eq_getElem hj] at this
    first | exact this.1 | exact this.2
theorem createD_no {d : Dk} {s : List UInt8} (h : begE d s false ≠ 0) : createD d s = (dk0, begE d s false) := by
  have e : begE d s false = if atE d s = 6 then 0 else if atE d s = 0 then 7 else atE d s := rfl
  have a : atE d s = if readyE d s ≠ 0 then readyE d s else if hasN d.files s then 0 else 6 := rfl
  unfold createD
  by_cases h1 : readyE d s ≠ 0
  · rw [if_pos h1] at a ⊢
    rw [e, a]
    rcases readyE_le d s with h2 | h2 | h2
    · exact absurd h2 h1
    · rw [h2]; rfl
    · rw [h2]; rfl
  · rw [if_neg h1] at a ⊢
    cases hb : hasN d.files s
    · rw [hb] at a
      have a : atE d s = 6 := a
      rw [e, a] at h
      exact absurd rfl h
    · rw [hb] at a
      have a : atE d s = 0 := a
      rw [e, a]; rfl
theorem createD_yes {d : Dk} {s : List UInt8} (h : begE d s false = 0) : createD d s = if d.files.length = 256 then (dk0, 9) else (⟨d.cap, nextL d.left, d.files.take (lowN d.files s) ++ ⟨s, [], []⟩ :: d.files.drop (lowN d.files s)⟩, 0) := by
  have e : begE d s false = if atE d s = 6 then 0 else if atE d s = 0 then 7 else atE d s := rfl
  have a : atE d s = if readyE d s ≠ 0 then readyE d s else if hasN d.files s then 0 else 6 := rfl
  unfold createD
  by_cases h1 : readyE d s ≠ 0
  · rw [if_pos h1] at a
    rw [e, a] at h
    rcases readyE_le d s with h2 | h2 | h2
    · exact absurd h2 h1
    · rw [h2] at h; cases h
    · rw [h2] at h; cases h
  · rw [if_neg h1] at a ⊢
    cases hb : hasN d.files s
    · rw [if_neg (by simp)]
      have := addN_new (l := d.files) (f := ⟨s, [], []⟩) hb
      split
      · rfl
      · rw [this]
    · rw [hb] at a
      have a : atE d s = 0 := a
      rw [e, a] at h
      cases h
end Go.Proofs.YtkabcpmnbjllcaaDoor
