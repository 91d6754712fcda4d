/- written of the reference: what holds in the region that draws and copies the writes. -/
import Derived.Test.YtkabcpmnbjllcaaDoorKD
import Derived.Test.YtkabcpmnbjllcaaDoorRn
namespace Go.Proofs.YtkabcpmnbjllcaaDoor
open Go.RowKit

def PurR (ps : List (Nat × Value)) (L : Nat → Bool) (f : Nat → Value) : Prop := ∀ q ∈ ps, L q.1 = true → f q.1 = q.2
theorem onR_ne {L : Nat → Bool} {i j : Nat} (h : j ≠ i) : onL L i j = L j := if_neg h
theorem upR_ne {f : Nat → Value} {i j : Nat} {v : Value} (h : j ≠ i) : updF f i v j = f j := if_neg h
theorem onR_eq (L : Nat → Bool) (i : Nat) : onL L i i = true := if_pos rfl
theorem upR_eq (f : Nat → Value) (i : Nat) (v : Value) : updF f i v i = v := if_pos rfl
theorem PurR.one {ps : List (Nat × Value)} {L : Nat → Bool} {f : Nat → Value} (h : PurR ps L f) {i : Nat} {v : Value} (hp : ∀ q ∈ ps, q.1 = i → v = q.2) : PurR ps (onL L i) (updF f i v) := fun q hq hL => by
  by_cases e : q.1 = i
  · rw [← hp q hq e, e]; exact upR_eq f i v
  · rw [upR_ne e]
    rw [onR_ne e] at hL
    exact h q hq hL
theorem Rd.of_block {w w' : World} {sz n k m cap : Nat} {cs : List Value} (h : Rd w sz (.slice (some ⟨k, 0, none⟩) m cap) n cs) (hk : w'.heap[k]? = w.heap[k]?) : Rd w' sz (.slice (some ⟨k, 0, none⟩) m cap) n cs := by
  obtain ⟨h0, a, c, e, h1, h2, h3, h4⟩ := h
  injection e with e1 e2 e3
  subst e1 e2 e3
  refine ⟨h0, _, _, rfl, h1, h2, h3, fun hp => ?_⟩
  obtain ⟨b, off, e4, hc⟩ := h4 hp
  injection e4 with e4
  injection e4 with e5 e6
  subst e5 e6
  exact ⟨_, _, rfl, fun j u hj => (World.cell?_of_block (a := ⟨k, 0 + j, none⟩) hk).trans (hc j u hj)⟩
/-- What is done of the region: the empty row (0), the writes copied into it (3), the row of the new write (5). -/
structure ApS (B0 : Nat) (w6 : World) (wes : List (Wr × Value)) (x : Wr × Value) (ps : List (Nat × Value)) (L : Nat → Bool) (f : Nat → Value) (W : World) : Prop where
  pur : PurR ps L f
  hb : Below B0 w6 W
  sz : B0 ≤ W.heap.size
  a0 : L 0 = true → ∃ k, f 0 = .slice (some ⟨k, 0, none⟩) 0 0 ∧ k < W.heap.size ∧ (L 5 = true → ∀ k5, (f 5).ownBlock = some k5 → k5 ≠ k) ∧ (L 3 = false → W.ownsRow B0 94 3 (f 0) 0 [])
  a5 : L 5 = true → ∃ k5, f 5 = .slice (some ⟨k5, 0, none⟩) 1 1 ∧ k5 < W.heap.size ∧ Rd W 3 (f 5) 1 (wrC x)
  a3 : L 3 = true → W.ownsRow B0 94 3 (f 3) wes.length (wes.flatMap wrC) ∧ L 0 = true
section
variable {B0 : Nat} {w6 : World} {wes : List (Wr × Value)} {x : Wr × Value} {ps : List (Nat × Value)} {L : Nat → Bool} {f : Nat → Value} {W W' : World}
theorem ApS.start (hs : B0 = w6.heap.size) (f : Nat → Value) : ApS B0 w6 wes x ps (fun _ => false) f w6.drew := by
  subst hs
  exact ⟨(fun _ _ h => by cases h), below_drew (Below.refl _ _), Nat.le_refl _, (fun h => by cases h), (fun h => by cases h), fun h => by cases h⟩
theorem ApS.pure (h : ApS B0 w6 wes x ps L f W) {i : Nat} {v : Value} (h0 : 0 ≠ i) (h3 : 3 ≠ i) (h5 : 5 ≠ i) (hp : ∀ q ∈ ps, q.1 = i → v = q.2) : ApS B0 w6 wes x ps (onL L i) (updF f i v) W := by
  refine ⟨h.pur.one hp, h.hb, h.sz, fun e => ?_, fun e => ?_, fun e => ?_⟩
  · rw [onR_ne h0] at e
    rw [upR_ne h0, upR_ne h5, onR_ne h5, onR_ne h3]
    exact h.a0 e
  · rw [onR_ne h5] at e; rw [upR_ne h5]; exact h.a5 e
  · rw [onR_ne h3] at e; rw [upR_ne h3, onR_ne h0]; exact h.a3 e
theorem ApS.not3 (h : ApS B0 w6 wes x ps L f W) (h0 : L 0 = false) : L 3 = false := by
  cases e : L 3 with
  | false => rfl
  | true => rw [(h.a3 e).2] at h0; cases h0
theorem ApS.made (h : ApS B0 w6 wes x ps L f W) (h0 : L 0 = false) (hp : ∀ q ∈ ps, q.1 ≠ 0) : ApS B0 w6 wes x ps (onL L 0) (updF f 0 (.slice (some ⟨W.heap.size, 0, none⟩) 0 0)) (W.alloc (.cells #[] 94)) := by
  have h3 := h.not3 h0
  refine ⟨h.pur.one fun q hq e => absurd e (hp q hq), h.hb.alloc h.sz _, by simp; have := h.sz; omega, fun _ => ⟨W.heap.size, upR_eq .., by simp, fun e k5 hk => ?_, fun _ => ?_⟩, fun e => ?_, fun e => ?_⟩
  · rw [onR_ne (by decide)] at e
    rw [upR_ne (by decide)] at hk
    obtain ⟨k, e1, hlt, _⟩ := h.a5 e
    rw [e1] at hk
    have hk : k = k5 := by injection hk
    omega
  · rw [upR_eq]
    exact World.ownsRow_made (e := 94) (size := 3) W #[] 0 h.sz (by decide) rfl
  · rw [onR_ne (by decide)] at e
    rw [upR_ne (by decide)]
    obtain ⟨k5, e1, hlt, hr⟩ := h.a5 e
    exact ⟨k5, e1, by simp; omega, hr.alloc _⟩
  · rw [onR_ne (by decide), h3] at e; cases e
theorem ApS.one (h : ApS B0 w6 wes x ps L f W) (hp : ∀ q ∈ ps, q.1 ≠ 5) : ApS B0 w6 wes x ps (onL L 5) (updF f 5 (.slice (some ⟨W.heap.size, 0, none⟩) 1 1)) (W.alloc (.cells (wrC x).toArray 94)) := by
  refine ⟨h.pur.one fun q hq e => absurd e (hp q hq), h.hb.alloc h.sz _, by simp; have := h.sz; omega, fun e => ?_, fun _ => ⟨W.heap.size, upR_eq .., by simp, ?_⟩, fun e => ?_⟩
  · rw [onR_ne (by decide)] at e
    obtain ⟨k, e1, hlt, _, ho⟩ := h.a0 e
    rw [upR_ne (i := 5) (j := 0) (by decide), upR_eq, onR_ne (i := 5) (j := 3) (by decide)]
    refine ⟨k, e1, by simp; omega, fun _ k5 hk => ?_, fun e3 => own_keep (ho e3) ((Below.refl _ _).alloc (Nat.le_refl _) _)⟩
    have hk : W.heap.size = k5 := by injection hk
    omega
  · rw [upR_eq]
    exact Rd.new W 3 (wrC x) 94 1 rfl (by decide)
  · rw [onR_ne (by decide)] at e
    rw [upR_ne (by decide), onR_ne (by decide)]
    exact ⟨own_keep (h.a3 e).1 ((Below.refl _ _).alloc (Nat.le_refl _) _), (h.a3 e).2⟩
theorem ApS.copy (h : ApS B0 w6 wes x ps L f W) (h0 : L 0 = true) (h3 : L 3 = false) (hp : ∀ q ∈ ps, q.1 ≠ 3) {v : Value} {n : Nat} (hn : W'.ownsRow B0 94 3 v n (wes.flatMap wrC)) (hl : n = wes.length) (hg : W.grownBy W' (f 0).ownBlock) : ApS B0 w6 wes x ps (onL L 3) (updF f 3 v) W' := by
  obtain ⟨k, e1, hlt, hd, ho⟩ := h.a0 h0
  have ho := ho h3
  have hbb := own_below h.hb ho h.sz hg
  subst hl
  refine ⟨h.pur.one fun q hq e => absurd e (hp q hq), hbb, Nat.le_trans h.sz hg.size, fun _ => ?_, fun e => ?_, fun _ => ?_⟩
  · rw [upR_ne (by decide), upR_ne (by decide), onR_ne (i := 3) (j := 5) (by decide)]
    exact ⟨k, e1, Nat.lt_of_lt_of_le hlt hg.size, hd, fun e => by rw [onR_eq] at e; cases e⟩
  · rw [onR_ne (by decide)] at e
    rw [upR_ne (by decide)]
    obtain ⟨k5, e5, hl5, hr⟩ := h.a5 e
    have hne := hd e k5 (by rw [e5]; rfl)
    refine ⟨k5, e5, Nat.lt_of_lt_of_le hl5 hg.size, ?_⟩
    rw [e5] at hr ⊢
    exact hr.of_block (hg.block k5 hl5 fun e => by rw [e1] at e; have : k = k5 := by injection e.symm
                                                   omega)
  · rw [upR_eq, onR_ne (by decide)]
    exact ⟨hn, h0⟩
end
end Go.Proofs.YtkabcpmnbjllcaaDoor
