/- What is known of a slice of structs that came in: rows of cells, of which each opens. -/
import Derived.Test.YtkabcpmnbjllcaaDoorZd
import Derived.Test.YtkabcpmnbjllcaaDoorProg
import Derived.Deep.Slices
import Derived.Deep.SlicePairs
import Derived.ChangeArms
namespace Go.Proofs.YtkabcpmnbjllcaaDoor
open Go.RowKit Go.ChangeShapes Go.WideShapes Go.Deep

theorem one_of {cs : List Value} {i : Nat} {u : Value} (h : (cs.drop i).take 1 = [u]) : cs[i]? = some u := by
  have h1 : ((cs.drop i).take 1)[0]? = some u := by rw [h]; rfl
  rw [List.getElem?_take, if_pos (by decide), List.getElem?_drop, Nat.add_zero] at h1
  exact h1
theorem open_rows {H : Type} {enc : TypeId × Value → H} {w : World} {α : Type} (z : α) {t e : TypeId} {sz : Nat} (f : α → List Value) (Q : α → Prop) (hu : Tryd.prog.underlying t = some (.slice e)) (hc : Tryd.prog.cellsOf e = sz) (hf : ∀ x, (f x).length = sz) (hz : 0 < sz)
    (one : ∀ fuel cs x, DataW.trod enc Tryd.prog w 0 (fun _ => true) true fuel e cs = some x → ∃ y, cs = f y ∧ Q y)
    {a : Option Addr} {n cap : Nat} {d : DataW H} {p : List MemPlace} (h : DataW.Trod enc Tryd.prog w 0 (fun _ => true) true t (.slice a n cap) d p) :
    ∃ l : List α, RdS sz f w (.slice a n cap) l ∧ ∀ x ∈ l, Q x := by
  obtain ⟨fuel, hfu⟩ := h
  rcases open_slice hu hfu with ⟨hcs, _⟩ | ⟨x, len, cap', m, k, D, Pl, hcs, _, hl, hm, hmm, _, hx⟩
  · simp [Value.cells] at hcs
    obtain ⟨rfl, rfl, rfl⟩ := hcs
    exact ⟨[], RdS.nil sz f w, fun e he => by cases he⟩
  · simp [Value.cells] at hcs
    obtain ⟨rfl, rfl, rfl⟩ := hcs
    simp only [if_true] at hmm
    subst hmm
    rw [hc] at hx
    haveI : Inhabited α := ⟨z⟩
    have each : ∀ i, i < n → ∃ y : α, (∀ j, j < sz → w.cell? (x.add (i * sz + j)) = (f y)[j]?) ∧ Q y := fun i hi => by
      obtain ⟨cs', h1, h2⟩ := hx i (by omega)
      obtain ⟨y, rfl, hy⟩ := one _ _ _ h2
      obtain ⟨_, _, hc⟩ := World.cells?_some h1
      exact ⟨y, fun j hj => by rw [← hc j hj, Go.Deep.add_add], hy⟩
    obtain ⟨E, hE⟩ := choose_lt each
    have hfl := flat_length sz f ((List.range n).map E) (fun x _ => hf x)
    refine ⟨(List.range n).map E, ⟨fun x _ => hf x, ?_⟩, fun e he => ?_⟩
    · rw [List.length_map, List.length_range]
      rw [List.length_map, List.length_range] at hfl
      refine ⟨hfl, some x, m, by simp, by simpa using hl, hm, fun h => by simp at h, fun hp => ?_⟩
      have hn : 0 < n := by
        rw [hfl] at hp; exact Nat.pos_of_mul_pos_right hp
      obtain ⟨b, off, spot⟩ := x
      have hspot : spot = none := by
        have h0 := (hE 0 hn).1 0 hz
        rw [List.getElem?_eq_getElem (by rw [hf]; exact hz)] at h0
        simpa [Addr.add] using World.cell?_spot h0
      subst hspot
      refine ⟨b, off, rfl, fun j u hj => ?_⟩
      have hjl : j < n * sz := by
        have := (List.getElem?_eq_some_iff.1 hj).1
        rw [hfl] at this
        exact this
      have hjd : j / sz < n := (Nat.div_lt_iff_lt_mul hz).2 hjl
      have hjm : j % sz < sz := Nat.mod_lt _ hz
      have hat := flat_at sz f z ((List.range n).map E) (fun x _ => hf x) (j / sz) (j % sz) (by simpa using hjd) hjm
      have hjj : j / sz * sz + j % sz = j := by rw [Nat.mul_comm]; exact Nat.div_add_mod j sz
      rw [hjj] at hat
      have hg : ((List.range n).map E).getD (j / sz) z = E (j / sz) := by
        rw [List.getD_eq_getElem?_getD, List.getElem?_map, List.getElem?_range hjd]; rfl
      rw [hg] at hat
      have hc := (hE (j / sz) hjd).1 (j % sz) hjm
      rw [hjj, addr_add] at hc
      rw [hc, ← hat]; exact hj
    · obtain ⟨i, hi, rfl⟩ := List.mem_map.1 he
      exact (hE i (List.mem_range.1 hi)).2
end Go.Proofs.YtkabcpmnbjllcaaDoor
