/- Several texts in one, each over the last: What is known of a slice of structs that came in: rows of cells, of which each opens. What is known of a slice of byte slices that came in. What is known of slices of keeps and of operations that came in. -/
import Derived.Test.YtkabcpmnbjllcaaDoorZd
import Derived.Test.YtkabcpmnbjllcaaDoorProg
import Derived.Deep.Slices
import Derived.Deep.SlicePairs
import Derived.ChangeArms
import Derived.Test.YtkabcpmnbjllcaaDoorDki
namespace Go.Proofs.YtkabcpmnbjllcaaDoor
open Go.RowKit Go.ChangeShapes Go.WideShapes Go.Deep

theorem one_of {cs : List Value} {i : Nat} {u : Value} (h : (cs.drop i).take 1 = [u]) : cs[i]? = some u := by
  have h1 : ((cs.drop i).take 1)[0]? = some u := by rw [h]; rfl
  rw [List.getElem?_take, if_pos (by decide), List.getElem?_drop, Nat.add_zero] at h1
  exact h1
theorem open_rows {H : Type} {enc : TypeId × Value → H} {w : World} {α : Type} (z : α) {t e : TypeId} {sz : Nat} (f : α → List Value) (Q : α → Prop) (hu : Tryd.prog.underlying t = some (.slice e)) (hc : Tryd.prog.cellsOf e = sz) (hf : ∀ x, (f x).length = sz) (hz : 0 < sz)
    (one : ∀ fuel cs x, DataW.trod enc Tryd.prog w 0 (fun _ => true) true fuel e cs = some x → ∃ y, cs = f y ∧ Q y)
    {a : Option Addr} {n cap : Nat} {d : DataW H} {p : List MemPlace} (h : DataW.Trod enc Tryd.prog w 0 (fun _ => true) true t (.slice a n cap) d p) :
    ∃ l : List α, RdS sz f w (.slice a n cap) l ∧ ∀ x ∈ l, Q x := by
  obtain ⟨fuel, hfu⟩ := h
  rcases open_slice hu hfu with ⟨hcs, _⟩ | ⟨x, len, cap', m, k, D, Pl, hcs, _, hl, hm, hmm, _, hx⟩
  · simp [Value.cells] at hcs
    obtain ⟨rfl, rfl, rfl⟩ := hcs
    exact ⟨[], RdS.nil sz f w, fun e he => by cases he⟩
  · simp [Value.cells] at hcs
    obtain ⟨rfl, rfl, rfl⟩ := hcs
    simp only [if_true] at hmm
    subst hmm
    rw [hc] at hx
    haveI : Inhabited α := ⟨z⟩
    have each : ∀ i, i < n → ∃ y : α, (∀ j, j < sz → w.cell? (x.add (i * sz + j)) = (f y)[j]?) ∧ Q y := fun i hi => by
      obtain ⟨cs', h1, h2⟩ := hx i (by omega)
      obtain ⟨y, rfl, hy⟩ := one _ _ _ h2
      obtain ⟨_, _, hc⟩ := World.cells?_some h1
      exact ⟨y, fun j hj => by rw [← hc j hj, Go.Deep.add_add], hy⟩
    obtain ⟨E, hE⟩ := choose_lt each
    have hfl := flat_length sz f ((List.range n).map E) (fun x _ => hf x)
    refine ⟨(List.range n).map E, ⟨fun x _ => hf x, ?_⟩, fun e he => ?_⟩
    · rw [List.length_map, List.length_range]
      rw [List.length_map, List.length_range] at hfl
      refine ⟨hfl, some x, m, by simp, by simpa using hl, hm, fun h => by simp at h, fun hp => ?_⟩
      have hn : 0 < n := by
        rw [hfl] at hp; exact Nat.pos_of_mul_pos_right hp
      obtain ⟨b, off, spot⟩ := x
      have hspot : spot = none := by
        have h0 := (hE 0 hn).1 0 hz
        rw [List.getElem?_eq_getElem (by rw [hf]; exact hz)] at h0
        simpa [Addr.add] using World.cell?_spot h0
      subst hspot
      refine ⟨b, off, rfl, fun j u hj => ?_⟩
      have hjl : j < n * sz := by
        have := (List.getElem?_eq_some_iff.1 hj).1
        rw [hfl] at this
        exact this
      have hjd : j / sz < n := (Nat.div_lt_iff_lt_mul hz).2 hjl
      have hjm : j % sz < sz := Nat.mod_lt _ hz
      have hat := flat_at sz f z ((List.range n).map E) (fun x _ => hf x) (j / sz) (j % sz) (by simpa using hjd) hjm
      have hjj : j / sz * sz + j % sz = j := by rw [Nat.mul_comm]; exact Nat.div_add_mod j sz
      rw [hjj] at hat
      have hg : ((List.range n).map E).getD (j / sz) z = E (j / sz) := by
        rw [List.getD_eq_getElem?_getD, List.getElem?_map, List.getElem?_range hjd]; rfl
      rw [hg] at hat
      have hc := (hE (j / sz) hjd).1 (j % sz) hjm
      rw [hjj, addr_add] at hc
      rw [hc, ← hat]; exact hj
    · obtain ⟨i, hi, rfl⟩ := List.mem_map.1 he
      exact (hE i (List.mem_range.1 hi)).2
end Go.Proofs.YtkabcpmnbjllcaaDoor

namespace Go.Proofs.YtkabcpmnbjllcaaDoor
open Go.RowKit Go.ChangeShapes Go.WideShapes Go.Deep

theorem cellsOf_byts : Tryd.prog.cellsOf 47 = 1 := by kernel_rfl
theorem open_byts {H : Type} {enc : TypeId × Value → H} {w : World} {fuel : Nat} {cs : List Value} {x : DataW H × List MemPlace} (h : DataW.trod enc Tryd.prog w 0 (fun _ => true) true fuel 47 cs = some x) : ∃ (v : Value) (l : List UInt8), cs = [v] ∧ RdB w v l := by
  rcases open_ints Tryd.underlying47 Tryd.underlying5 (by kernel_rfl) h with ⟨hcs, _⟩ | ⟨x, l, c, zs, hcs, _, hl, hm, hz, _, hcell, hwz⟩
  · exact ⟨_, [], hcs, RdB_nil w⟩
  · obtain ⟨r, _, hr⟩ := isRow_bytes (w := w) (a := some x) (len := l) (cap := c) (zs := zs) (.inr ⟨_, rfl, hl, hm, by simpa using hz, hcell, hwz⟩)
    exact ⟨_, r, hcs, hr⟩
def bbC (q : List UInt8 × Value) : List Value := [q.2]
/-- v reads as the pieces l. -/
def RdP (w : World) (v : Value) (l : List (List UInt8 × Value)) : Prop := RdS 1 bbC w v l ∧ ∀ q ∈ l, RdB w q.2 q.1
theorem RdP.at {w : World} {a : Option Addr} {n cap : Nat} {l : List (List UInt8 × Value)} (h : RdP w (.slice a n cap) l) {j : Nat} (hj : j < n) : n = l.length ∧ ∃ b off, a = some ⟨b, off, none⟩ ∧ w.cell? ⟨b, off + j, none⟩ = some (l.getD j ([], .slice none 0 0)).2 ∧ RdB w (l.getD j ([], .slice none 0 0)).2 (l.getD j ([], .slice none 0 0)).1 := by
  obtain ⟨a', cap', e, h1, h2, h3, h4⟩ := RdS.shape h.1 (by decide) ([], .slice none 0 0)
  injection e with e1 e2 e3
  subst e1 e2 e3
  obtain ⟨b, off, e4, hc⟩ := h4 (by omega)
  have c := hc j hj 0 _ rfl
  rw [Nat.mul_one, Nat.add_zero] at c
  refine ⟨rfl, b, off, e4, c, h.2 _ ?_⟩
  rw [List.getD_eq_getElem?_getD, List.getElem?_eq_getElem hj]
  exact List.getElem_mem hj
theorem RdP.below {w w' : World} {v : Value} {l : List (List UInt8 × Value)} (h : RdP w v l) (hb : Below w.heap.size w w') : RdP w' v l := ⟨RdS.below h.1 hb, fun q hq => (h.2 q hq).below hb⟩
end Go.Proofs.YtkabcpmnbjllcaaDoor

namespace Go.Proofs.YtkabcpmnbjllcaaDoor
open Go.RowKit Go.ChangeShapes Go.WideShapes Go.Deep

section
variable {H : Type} {enc : TypeId × Value → H} {w : World}
theorem open_rowsF {α : Type} (z : α) {t e : TypeId} {sz : Nat} (f : α → List Value) (Q : α → Prop) (hu : Tryd.prog.underlying t = some (.slice e)) (hc : Tryd.prog.cellsOf e = sz) (hf : ∀ x, (f x).length = sz) (hz : 0 < sz)
    (one : ∀ fuel cs x, DataW.trod enc Tryd.prog w 0 (fun _ => true) true fuel e cs = some x → ∃ y, cs = f y ∧ Q y)
    {fuel : Nat} {cs : List Value} {x : DataW H × List MemPlace} (h : DataW.trod enc Tryd.prog w 0 (fun _ => true) true fuel t cs = some x) :
    ∃ (v : Value) (l : List α), cs = [v] ∧ RdS sz f w v l ∧ ∀ x ∈ l, Q x := by
  have hs : ∃ a n cap, cs = [.slice a n cap] := by
    rcases open_slice hu h with ⟨hcs, _⟩ | ⟨x, len, cap', m, k, D, Pl, hcs, _⟩
    · exact ⟨_, _, _, hcs⟩
    · exact ⟨_, _, _, hcs⟩
  obtain ⟨a, n, cap, rfl⟩ := hs
  obtain ⟨d, p⟩ := x
  obtain ⟨l, h1, h2⟩ := open_rows z f Q hu hc hf hz one (a := a) (n := n) (cap := cap) (d := d) (p := p) ⟨fuel, by simpa [Value.cells] using h⟩
  exact ⟨_, l, rfl, h1, h2⟩
theorem cellsOf_str1 : Tryd.prog.cellsOf 9 = 1 := by kernel_rfl
theorem cellsOf_int1 : Tryd.prog.cellsOf 3 = 1 := by kernel_rfl
theorem cellsOf_i641 : Tryd.prog.cellsOf 2 = 1 := by kernel_rfl
theorem cellsOf_kps : Tryd.prog.cellsOf 75 = 1 := by kernel_rfl
theorem structKp : ∃ f0 f1 f2, Tryd.prog.underlying 113 = some (.struct #[f0, f1, f2]) ∧ (f0.offset = 0 ∧ f1.offset = 1 ∧ f2.offset = 2) ∧ f0.type = 9 ∧ f1.type = 3 ∧ f2.type = 3 :=
  ⟨_, _, _, Tryd.underlying113, ⟨rfl, rfl, rfl⟩, rfl, rfl, rfl⟩
theorem cellsOfKp : Tryd.prog.cellsOf 113 = 3 := by kernel_rfl
theorem open_kp {fuel : Nat} {cs : List Value} {x : DataW H × List MemPlace} (h : DataW.trod enc Tryd.prog w 0 (fun _ => true) true fuel 113 cs = some x) : ∃ y : Kp, cs = kpC y ∧ True := by
  obtain ⟨f0, f1, f2, hs, ⟨o0, o1, o2⟩, t0, t1, t2⟩ := structKp
  obtain ⟨xs, n, _, _, hlen, hxl, hf⟩ := DataW.trod_struct hs h
  rw [cellsOfKp] at hlen
  have hx : xs.length = 3 := by simpa using hxl
  have g : ∀ j (hj : j < 3), xs[j]? = some (xs[j]'(by omega)) := fun j hj => List.getElem?_eq_getElem (by omega)
  have h0 := (hf 0 f0 rfl).trans (g 0 (by omega))
  have h1 := (hf 1 f1 rfl).trans (g 1 (by omega))
  have h2 := (hf 2 f2 rfl).trans (g 2 (by omega))
  rw [t0, o0, cellsOf_str1] at h0
  rw [t1, o1, cellsOf_int1] at h1
  rw [t2, o2, cellsOf_int1] at h2
  obtain ⟨s, e0, _, _⟩ := DataW.trod_string Tryd.underlying9 h0
  obtain ⟨a, e1, _, _⟩ := DataW.trod_int Tryd.underlying3 h1
  obtain ⟨c, e2, _, _⟩ := DataW.trod_int Tryd.underlying3 h2
  have d0 := one_of e0
  have d1 := one_of e1
  have d2 := one_of e2
  refine ⟨⟨s.data.toList, a, c⟩, ?_, trivial⟩
  match cs, hlen, d0, d1, d2 with
  | [p, q, r], _, d0, d1, d2 =>
    simp at d0 d1 d2
    subst d0 d1 d2
    rfl
theorem open_kpsF {fuel : Nat} {cs : List Value} {x : DataW H × List MemPlace} (h : DataW.trod enc Tryd.prog w 0 (fun _ => true) true fuel 75 cs = some x) : ∃ (v : Value) (l : List Kp), cs = [v] ∧ RdK w v l := by
  obtain ⟨v, l, e, h1, _⟩ := open_rowsF kp0 kpC (fun _ => True) Tryd.underlying75 cellsOfKp (fun _ => rfl) (by decide) (fun _ _ _ h => open_kp h) h
  exact ⟨v, l, e, h1⟩
/-- v came in as the keeps l. -/
theorem open_kps {a : Option Addr} {n cap : Nat} {d : DataW H} {p : List MemPlace} (h : DataW.Trod enc Tryd.prog w 0 (fun _ => true) true 75 (.slice a n cap) d p) : ∃ l : List Kp, RdK w (.slice a n cap) l := by
  obtain ⟨l, h1, _⟩ := open_rows kp0 kpC (fun _ => True) Tryd.underlying75 cellsOfKp (fun _ => rfl) (by decide) (fun _ _ _ h => open_kp h) h
  exact ⟨l, h1⟩
structure OpWf (o : Opr) : Prop where
  kind : I64 o.kind
  off : I64 o.off
  name : o.name.length ≤ 9223372036854775807
  nt : o.to.length ≤ 9223372036854775807
def opC (p : Opr × Value × Value) : List Value := [.int .i64 p.1.kind, .string (strB p.1.name), .string (strB p.1.to), .int .i64 p.1.off, p.2.1, p.2.2]
def OpIn (w : World) (p : Opr × Value × Value) : Prop := RdB w p.2.1 p.1.data ∧ RdK w p.2.2 p.1.keep ∧ OpWf p.1
/-- v reads as the operations l. -/
def RdO (w : World) (v : Value) (l : List (Opr × Value × Value)) : Prop := RdS 6 opC w v l ∧ ∀ p ∈ l, OpIn w p
theorem OpIn.below {w w' : World} {p : Opr × Value × Value} (h : OpIn w p) (hb : Below w.heap.size w w') : OpIn w' p := ⟨h.1.below hb, h.2.1.below hb, h.2.2⟩
theorem RdO.below {w w' : World} {v : Value} {l : List (Opr × Value × Value)} (h : RdO w v l) (hb : Below w.heap.size w w') : RdO w' v l := ⟨RdS.below h.1 hb, fun p hp => (h.2 p hp).below hb⟩
theorem structOp : ∃ f0 f1 f2 f3 f4 f5, Tryd.prog.underlying 85 = some (.struct #[f0, f1, f2, f3, f4, f5]) ∧ (f0.offset = 0 ∧ f1.offset = 1 ∧ f2.offset = 2 ∧ f3.offset = 3 ∧ f4.offset = 4 ∧ f5.offset = 5) ∧ f0.type = 3 ∧ f1.type = 9 ∧ f2.type = 9 ∧ f3.type = 2 ∧ f4.type = 47 ∧ f5.type = 75 :=
  ⟨_, _, _, _, _, _, Tryd.underlying85, ⟨rfl, rfl, rfl, rfl, rfl, rfl⟩, rfl, rfl, rfl, rfl, rfl, rfl⟩
theorem cellsOfOp : Tryd.prog.cellsOf 85 = 6 := by kernel_rfl
theorem open_op {fuel : Nat} {cs : List Value} {x : DataW H × List MemPlace} (h : DataW.trod enc Tryd.prog w 0 (fun _ => true) true fuel 85 cs = some x) : ∃ y : Opr × Value × Value, cs = opC y ∧ OpIn w y := by
  obtain ⟨f0, f1, f2, f3, f4, f5, hs, ⟨o0, o1, o2, o3, o4, o5⟩, t0, t1, t2, t3, t4, t5⟩ := structOp
  obtain ⟨xs, n, _, _, hlen, hxl, hf⟩ := DataW.trod_struct hs h
  rw [cellsOfOp] at hlen
  have hx : xs.length = 6 := by simpa using hxl
  have g : ∀ j (hj : j < 6), xs[j]? = some (xs[j]'(by omega)) := fun j hj => List.getElem?_eq_getElem (by omega)
  have h0 := (hf 0 f0 rfl).trans (g 0 (by omega))
  have h1 := (hf 1 f1 rfl).trans (g 1 (by omega))
  have h2 := (hf 2 f2 rfl).trans (g 2 (by omega))
  have h3 := (hf 3 f3 rfl).trans (g 3 (by omega))
  have h4 := (hf 4 f4 rfl).trans (g 4 (by omega))
  have h5 := (hf 5 f5 rfl).trans (g 5 (by omega))
  rw [t0, o0, cellsOf_int1] at h0
  rw [t1, o1, cellsOf_str1] at h1
  rw [t2, o2, cellsOf_str1] at h2
  rw [t3, o3, cellsOf_i641] at h3
  rw [t4, o4, cellsOf_byts] at h4
  rw [t5, o5, cellsOf_kps] at h5
  obtain ⟨k, e0, _, w0⟩ := DataW.trod_int Tryd.underlying3 h0
  obtain ⟨s, e1, _, w1⟩ := DataW.trod_string Tryd.underlying9 h1
  obtain ⟨s2, e2, _, w2⟩ := DataW.trod_string Tryd.underlying9 h2
  obtain ⟨o, e3, _, w3⟩ := DataW.trod_int Tryd.underlying2 h3
  obtain ⟨v, l, e4, hr⟩ := open_byts h4
  obtain ⟨v2, l2, e5, hr2⟩ := open_kpsF h5
  have d0 := one_of e0
  have d1 := one_of e1
  have d2 := one_of e2
  have d3 := one_of e3
  have d4 := one_of e4
  have d5 := one_of e5
  have hl1 : s.data.toList.length = s.size := by rw [Array.length_toList]; rfl
  have hl2 : s2.data.toList.length = s2.size := by rw [Array.length_toList]; rfl
  refine ⟨(⟨k, s.data.toList, s2.data.toList, o, l, l2⟩, v, v2), ?_, hr, hr2, bounds_of_i64 w0, bounds_of_i64 w3, ?_, ?_⟩
  · match cs, hlen, d0, d1, d2, d3, d4, d5 with
    | [p, q, r, t, u, x], _, d0, d1, d2, d3, d4, d5 =>
      simp at d0 d1 d2 d3 d4 d5
      subst d0 d1 d2 d3 d4 d5
      rfl
  · show s.data.toList.length ≤ _
    rw [hl1]; exact w1
  · show s2.data.toList.length ≤ _
    rw [hl2]; exact w2
theorem open_ops {a : Option Addr} {n cap : Nat} {d : DataW H} {p : List MemPlace} (h : DataW.Trod enc Tryd.prog w 0 (fun _ => true) true 25 (.slice a n cap) d p) : ∃ l : List (Opr × Value × Value), RdO w (.slice a n cap) l := by
  obtain ⟨l, h1, h2⟩ := open_rows (⟨0, [], [], 0, [], []⟩, .slice none 0 0, .slice none 0 0) opC (OpIn w) Tryd.underlying25 cellsOfOp (fun _ => rfl) (by decide) (fun _ _ _ h => open_op h) h
  exact ⟨l, h1, h2⟩
end
def op0 : Opr × Value × Value := (⟨0, [], [], 0, [], []⟩, .slice none 0 0, .slice none 0 0)
theorem RdO.shape {w : World} {v : Value} {l : List (Opr × Value × Value)} (h : RdO w v l) : ∃ a cap, v = .slice a l.length cap ∧ l.length ≤ cap ∧ cap ≤ maxLen := by
  obtain ⟨a, c, e, h1, h2, _⟩ := RdS.shape h.1 (by decide) op0
  exact ⟨a, c, e, h1, h2⟩
theorem RdO.at {w : World} {a : Option Addr} {n cap : Nat} {l : List (Opr × Value × Value)} (h : RdO w (.slice a n cap) l) {j : Nat} (hj : j < n) : ∃ b off, a = some ⟨b, off, none⟩ ∧ OpIn w (l.getD j op0) ∧
    w.cell? ⟨b, off + j * 6, none⟩ = some (.int .i64 (l.getD j op0).1.kind) ∧ w.cell? ⟨b, off + j * 6 + 1, none⟩ = some (.string (strB (l.getD j op0).1.name)) ∧ w.cell? ⟨b, off + j * 6 + 2, none⟩ = some (.string (strB (l.getD j op0).1.to)) ∧
    w.cell? ⟨b, off + j * 6 + 3, none⟩ = some (.int .i64 (l.getD j op0).1.off) ∧ w.cell? ⟨b, off + j * 6 + 4, none⟩ = some (l.getD j op0).2.1 ∧ w.cell? ⟨b, off + j * 6 + 5, none⟩ = some (l.getD j op0).2.2 := by
  obtain ⟨a', cap', e, h1, h2, h3, h4⟩ := RdS.shape h.1 (by decide) op0
  injection e with e1 e2 e3
  subst e1 e2 e3
  obtain ⟨b, off, e4, hc⟩ := h4 (by omega)
  have c := hc j hj
  refine ⟨b, off, e4, h.2 _ ?_, c 0 _ rfl, c 1 _ rfl, c 2 _ rfl, c 3 _ rfl, c 4 _ rfl, c 5 _ rfl⟩
  rw [List.getD_eq_getElem?_getD, List.getElem?_eq_getElem hj]
  exact List.getElem_mem hj
theorem OpWf.lite {o : Opr} (h : OpWf o) : LiteO (cutO o) := ⟨h.kind, h.name, h.nt, by show (o.data.take 200).length ≤ _; rw [List.length_take]; omega, by show (o.keep.take 10).length ≤ _; rw [List.length_take]; omega⟩
end Go.Proofs.YtkabcpmnbjllcaaDoor
