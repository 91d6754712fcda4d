/- What is known of a slice of byte slices that came in. -/
import Derived.Test.YtkabcpmnbjllcaaDoorDkq
import Derived.Test.YtkabcpmnbjllcaaDoorZd
namespace Go.Proofs.YtkabcpmnbjllcaaDoor
open Go.RowKit Go.ChangeShapes Go.WideShapes Go.Deep

theorem cellsOf_byts : Tryd.prog.cellsOf 47 = 1 := by kernel_rfl
theorem open_byts {H : Type} {enc : TypeId × Value → H} {w : World} {fuel : Nat} {cs : List Value} {x : DataW H × List MemPlace} (h : DataW.trod enc Tryd.prog w 0 (fun _ => true) true fuel 47 cs = some x) : ∃ (v : Value) (l : List UInt8), cs = [v] ∧ RdB w v l := by
  rcases open_ints Tryd.underlying47 Tryd.underlying5 (by kernel_rfl) h with ⟨hcs, _⟩ | ⟨x, l, c, zs, hcs, _, hl, hm, hz, _, hcell, hwz⟩
  · exact ⟨_, [], hcs, RdB_nil w⟩
  · obtain ⟨r, _, hr⟩ := isRow_bytes (w := w) (a := some x) (len := l) (cap := c) (zs := zs) (.inr ⟨_, rfl, hl, hm, by simpa using hz, hcell, hwz⟩)
    exact ⟨_, r, hcs, hr⟩
def bbC (q : List UInt8 × Value) : List Value := [q.2]
/-- v reads as the pieces l. -/
def RdP (w : World) (v : Value) (l : List (List UInt8 × Value)) : Prop := RdS 1 bbC w v l ∧ ∀ q ∈ l, RdB w q.2 q.1
theorem open_pieces {H : Type} {enc : TypeId × Value → H} {w : World} {a : Option Addr} {n cap : Nat} {d : DataW H} {p : List MemPlace} (h : DataW.Trod enc Tryd.prog w 0 (fun _ => true) true 55 (.slice a n cap) d p) :
    ∃ l : List (List UInt8 × Value), RdP w (.slice a n cap) l := by
  obtain ⟨l, h1, h2⟩ := open_rows ([], .slice none 0 0) bbC (fun y => RdB w y.2 y.1) Tryd.underlying55 cellsOf_byts (fun _ => rfl) (by decide) (fun _ _ _ h => by
    obtain ⟨v, l, e, hr⟩ := open_byts h
    exact ⟨(l, v), e, hr⟩) h
  exact ⟨l, h1, h2⟩
theorem RdP.at {w : World} {a : Option Addr} {n cap : Nat} {l : List (List UInt8 × Value)} (h : RdP w (.slice a n cap) l) {j : Nat} (hj : j < n) : n = l.length ∧ ∃ b off, a = some ⟨b, off, none⟩ ∧ w.cell? ⟨b, off + j, none⟩ = some (l.getD j ([], .slice none 0 0)).2 ∧ RdB w (l.getD j ([], .slice none 0 0)).2 (l.getD j ([], .slice none 0 0)).1 := by
  obtain ⟨a', cap', e, h1, h2, h3, h4⟩ := RdS.shape h.1 (by decide) ([], .slice none 0 0)
  injection e with e1 e2 e3
  subst e1 e2 e3
  obtain ⟨b, off, e4, hc⟩ := h4 (by omega)
  have c := hc j hj 0 _ rfl
  rw [Nat.mul_one, Nat.add_zero] at c
  refine ⟨rfl, b, off, e4, c, h.2 _ ?_⟩
  rw [List.getD_eq_getElem?_getD, List.getElem?_eq_getElem hj]
  exact List.getElem_mem hj
theorem RdP.below {w w' : World} {v : Value} {l : List (List UInt8 × Value)} (h : RdP w v l) (hb : Below w.heap.size w w') : RdP w' v l := ⟨RdS.below h.1 hb, fun q hq => (h.2 q hq).below hb⟩
end Go.Proofs.YtkabcpmnbjllcaaDoor
