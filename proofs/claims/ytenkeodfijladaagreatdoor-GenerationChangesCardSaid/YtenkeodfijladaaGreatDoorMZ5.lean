/- Several texts in one, each over the last: What is known of a slice of items that came in. What is known of an item that came in by value. What is known of a needle map that came in by value. What is known of needles, of keys and of a generation that came in. GenerationChanges for the values that come in. -/
import Derived.Test.YtenkeodfijladaaGreatDoorIt
import Derived.Deep.Slices
import Derived.Deep.SlicePairs
import Derived.ChangeArms
import Derived.Test.YtenkeodfijladaaGreatDoorGA
import Derived.Test.YtenkeodfijladaaGreatDoorGN
import Derived.Test.YtenkeodfijladaaGreatDoorGD
import Derived.Test.YtenkeodfijladaaGreatDoorJe
namespace Go.Proofs.YtenkeodfijladaaGreatDoor
open Go.RowKit Go.ChangeShapes Go.WideShapes Go.Deep

theorem structT : ∃ f0 f1 f2 f3, Tryz.prog.underlying 77 = some (.struct #[f0, f1, f2, f3]) ∧ (f0.offset = 0 ∧ f1.offset = 1 ∧ f2.offset = 2 ∧ f3.offset = 3) ∧ f0.type = 32 ∧ f1.type = 33 ∧ f2.type = 2 ∧ f3.type = 3 :=
  ⟨_, _, _, _, Tryz.underlying77, ⟨rfl, rfl, rfl, rfl⟩, rfl, rfl, rfl, rfl⟩
theorem cellsOfT : Tryz.prog.cellsOf 77 = 4 := by kernel_rfl
theorem cellsOf_u64 : Tryz.prog.cellsOf 32 = 1 := by kernel_rfl
theorem cellsOf_u32 : Tryz.prog.cellsOf 33 = 1 := by kernel_rfl
theorem cellsOf_i64 : Tryz.prog.cellsOf 2 = 1 := by kernel_rfl
theorem cellsOf_int : Tryz.prog.cellsOf 3 = 1 := by kernel_rfl
section
variable {H : Type} {enc : TypeId × Value → H} {w : World}
theorem one_of {cs : List Value} {i : Nat} {u : Value} (h : (cs.drop i).take 1 = [u]) : cs[i]? = some u := by
  have h1 : ((cs.drop i).take 1)[0]? = some u := by rw [h]; rfl
  rw [List.getElem?_take, if_pos (by decide), List.getElem?_drop, Nat.add_zero] at h1
  exact h1
theorem open_item {fuel : Nat} {cs : List Value} {x : DataW H × List MemPlace} (h : DataW.trod enc Tryz.prog w 0 (fun _ => true) true fuel 77 cs = some x) : ∃ y : It, cs = itC y ∧ y.Wf := by
  obtain ⟨f0, f1, f2, f3, hs, ⟨o0, o1, o2, o3⟩, t0, t1, t2, t3⟩ := structT
  obtain ⟨xs, n, _, _, hlen, hxl, hf⟩ := DataW.trod_struct hs h
  rw [cellsOfT] at hlen
  have hx : xs.length = 4 := by simpa using hxl
  have g : ∀ j (hj : j < 4), xs[j]? = some (xs[j]'(by omega)) := fun j hj => List.getElem?_eq_getElem (by omega)
  have h0 := (hf 0 f0 rfl).trans (g 0 (by omega))
  have h1 := (hf 1 f1 rfl).trans (g 1 (by omega))
  have h2 := (hf 2 f2 rfl).trans (g 2 (by omega))
  have h3 := (hf 3 f3 rfl).trans (g 3 (by omega))
  rw [t0, o0, cellsOf_u64] at h0
  rw [t1, o1, cellsOf_u32] at h1
  rw [t2, o2, cellsOf_i64] at h2
  rw [t3, o3, cellsOf_int] at h3
  obtain ⟨k, e0, _, w0⟩ := DataW.trod_int Tryz.underlying32 h0
  obtain ⟨c, e1, _, w1⟩ := DataW.trod_int Tryz.underlying33 h1
  obtain ⟨o, e2, _, w2⟩ := DataW.trod_int Tryz.underlying2 h2
  obtain ⟨s, e3, _, w3⟩ := DataW.trod_int Tryz.underlying3 h3
  have d0 := one_of e0
  have d1 := one_of e1
  have d2 := one_of e2
  have d3 := one_of e3
  have b0 := bounds_of_u64 w0
  have b1 := bounds_of_u32 w1
  have b2 := bounds_of_i64 w2
  have b3 := bounds_of_i64 w3
  refine ⟨⟨k, c, o, s⟩, ?_, show 0 ≤ k ∧ k < 18446744073709551616 ∧ 0 ≤ c ∧ c < 4294967296 ∧ -9223372036854775808 ≤ o ∧ o ≤ 9223372036854775807 ∧ -9223372036854775808 ≤ s ∧ s ≤ 9223372036854775807 by omega⟩
  match cs, hlen, d0, d1, d2, d3 with
  | [a, b, c', d], _, d0, d1, d2, d3 =>
    simp at d0 d1 d2 d3
    subst d0 d1 d2 d3
    rfl
theorem open_items {a : Option Addr} {n cap : Nat} {d : DataW H} {p : List MemPlace} (h : DataW.Trod enc Tryz.prog w 0 (fun _ => true) true 22 (.slice a n cap) d p) :
    ∃ l : List It, RdT w (.slice a n cap) l ∧ ∀ x ∈ l, x.Wf := by
  obtain ⟨fuel, hf⟩ := h
  rcases open_slice Tryz.underlying22 hf with ⟨hcs, _⟩ | ⟨x, len, cap', m, k, D, Pl, hcs, _, hl, hm, hmm, _, hx⟩
  · simp [Value.cells] at hcs
    obtain ⟨rfl, rfl, rfl⟩ := hcs
    exact ⟨[], RdS.nil 4 itC w, fun e he => by cases he⟩
  · simp [Value.cells] at hcs
    obtain ⟨rfl, rfl, rfl⟩ := hcs
    simp only [if_true] at hmm
    subst hmm
    rw [cellsOfT] at hx
    have each : ∀ i, i < n → ∃ y : It, (∀ j, j < 4 → w.cell? (x.add (i * 4 + j)) = (itC y)[j]?) ∧ y.Wf := fun i hi => by
      obtain ⟨cs', h1, h2⟩ := hx i (by omega)
      obtain ⟨y, rfl, hy⟩ := open_item h2
      obtain ⟨_, _, hc⟩ := World.cells?_some h1
      exact ⟨y, fun j hj => by rw [← hc j hj, Go.Deep.add_add], hy⟩
    obtain ⟨E, hE⟩ := choose_lt each
    refine ⟨(List.range n).map E, rd_rdT (n := n) ⟨by rw [itsC_length]; simp, some x, m, by simp, by simpa using hl, hm, fun h => by simp at h, fun hp => ?_⟩, fun e he => ?_⟩
    · have hn : 0 < n := by
        rw [itsC_length] at hp; simp at hp; omega
      obtain ⟨b, off, spot⟩ := x
      have hspot : spot = none := by
        have h0 : w.cell? ((⟨b, off, spot⟩ : Addr).add (0 * 4 + 0)) = some (.int .u64 (E 0).key) := ((hE 0 hn).1 0 (by omega)).trans rfl
        simpa [Addr.add] using World.cell?_spot h0
      subst hspot
      refine ⟨b, off, rfl, fun j u hj => ?_⟩
      have hjl : j < n * 4 := by
        have := (List.getElem?_eq_some_iff.1 hj).1
        rw [itsC_length] at this
        simpa using this
      have hat := flat_at 4 itC it0 ((List.range n).map E) (fun _ _ => rfl) (j / 4) (j % 4) (by simp; omega) (by omega)
      rw [show j / 4 * 4 + j % 4 = j by omega] at hat
      have hg : ((List.range n).map E).getD (j / 4) it0 = E (j / 4) := by
        rw [List.getD_eq_getElem?_getD, List.getElem?_map, List.getElem?_range (by omega)]; rfl
      rw [hg] at hat
      have hc := (hE (j / 4) (by omega)).1 (j % 4) (by omega)
      rw [show j / 4 * 4 + j % 4 = j by omega, addr_add] at hc
      rw [hc, ← hat]; exact hj
    · obtain ⟨i, hi, rfl⟩ := List.mem_map.1 he
      exact (hE i (List.mem_range.1 hi)).2
end
end Go.Proofs.YtenkeodfijladaaGreatDoor

namespace Go.Proofs.YtenkeodfijladaaGreatDoor
open Go.RowKit Go.ChangeShapes Go.WideShapes Go.Deep

theorem open_itemv {H : Type} {enc : TypeId × Value → H} {w : World} {cs : Array Value} {d : DataW H} {p : List MemPlace} (h : DataW.Trod enc Tryz.prog w 0 (fun _ => true) true 77 (.agg cs) d p) : ∃ y : It, cs = #[.int .u64 y.key, .int .u32 y.ck, .int .i64 y.off, .int .i64 y.size] ∧ y.Wf := by
  obtain ⟨fuel, hf⟩ := h
  obtain ⟨y, hy, hw⟩ := open_item hf
  have hy : cs.toList = itC y := hy
  exact ⟨y, by rw [← Array.toArray_toList (xs := cs), hy]; rfl, hw⟩
end Go.Proofs.YtenkeodfijladaaGreatDoor

namespace Go.Proofs.YtenkeodfijladaaGreatDoor
open Go.RowKit Go.ChangeShapes Go.WideShapes Go.Deep

theorem cellsOf_items : Tryz.prog.cellsOf 22 = 1 := by kernel_rfl
theorem cellsOf_strs : Tryz.prog.cellsOf 23 = 8 := by kernel_rfl
theorem cellsOf_map : Tryz.prog.cellsOf 25 = 10 := by kernel_rfl
theorem structM : ∃ f0 f1 f2, Tryz.prog.underlying 25 = some (.struct #[f0, f1, f2]) ∧ (f0.offset = 0 ∧ f1.offset = 8 ∧ f2.offset = 9) ∧ f0.type = 23 ∧ f1.type = 2 ∧ f2.type = 2 :=
  ⟨_, _, _, Tryz.underlying25, ⟨rfl, rfl, rfl⟩, rfl, rfl, rfl⟩
section
variable {H : Type} {enc : TypeId × Value → H} {w : World}
theorem open_items1 {fuel : Nat} {cs : List Value} {x : DataW H × List MemPlace} (h : DataW.trod enc Tryz.prog w 0 (fun _ => true) true fuel 22 cs = some x) :
    ∃ y : Option Addr × Nat × Nat × List It, cs = [.slice y.1 y.2.1 y.2.2.1] ∧ RdT w (.slice y.1 y.2.1 y.2.2.1) y.2.2.2 ∧ ∀ x ∈ y.2.2.2, x.Wf := by
  have key : ∀ a n c, cs = [.slice a n c] → ∃ y : Option Addr × Nat × Nat × List It, cs = [.slice y.1 y.2.1 y.2.2.1] ∧ RdT w (.slice y.1 y.2.1 y.2.2.1) y.2.2.2 ∧ ∀ x ∈ y.2.2.2, x.Wf := fun a n c e => by
    subst e
    obtain ⟨l, h1, h2⟩ := open_items (a := a) (n := n) (cap := c) (d := x.1) (p := x.2) ⟨fuel, h⟩
    exact ⟨(a, n, c, l), rfl, h1, h2⟩
  rcases DataW.trod_slice Tryz.underlying22 h with ⟨e, _⟩ | ⟨a, len, cap, _, _, _, _, e, _⟩
  · exact key _ _ _ e
  · exact key _ _ _ e
theorem open_map {fuel : Nat} {cs : List Value} {x : DataW H × List MemPlace} (h : DataW.trod enc Tryz.prog w 0 (fun _ => true) true fuel 25 cs = some x) :
    ∃ (s : Sl) (M : Mp), cs = (mapC s M.live M.garb).toList ∧ RdM w s M.st ∧ (∀ i, i < 8 → ∀ x ∈ M.st i, x.Wf) ∧ (-9223372036854775808 ≤ M.live ∧ M.live ≤ 9223372036854775807) ∧ (-9223372036854775808 ≤ M.garb ∧ M.garb ≤ 9223372036854775807) := by
  obtain ⟨f0, f1, f2, hs, ⟨o0, o1, o2⟩, t0, t1, t2⟩ := structM
  obtain ⟨xs, n, _, _, hlen, hxl, hf⟩ := DataW.trod_struct hs h
  rw [cellsOf_map] at hlen
  have hx : xs.length = 3 := by simpa using hxl
  have g : ∀ j (hj : j < 3), xs[j]? = some (xs[j]'(by omega)) := fun j hj => List.getElem?_eq_getElem (by omega)
  have h0 := (hf 0 f0 rfl).trans (g 0 (by omega))
  have h1 := (hf 1 f1 rfl).trans (g 1 (by omega))
  have h2 := (hf 2 f2 rfl).trans (g 2 (by omega))
  rw [t0, o0, cellsOf_strs, List.drop_zero] at h0
  rw [t1, o1, cellsOf_i64] at h1
  rw [t2, o2, cellsOf_i64] at h2
  obtain ⟨L, e1, _, w1⟩ := DataW.trod_int Tryz.underlying2 h1
  obtain ⟨G, e2, _, w2⟩ := DataW.trod_int Tryz.underlying2 h2
  obtain ⟨ys, m, _, _, _, hyl, hy⟩ := DataW.trod_array Tryz.underlying23 h0
  have each : ∀ i, i < 8 → ∃ y : Option Addr × Nat × Nat × List It, ((cs.take 8).drop i).take 1 = [.slice y.1 y.2.1 y.2.2.1] ∧ RdT w (.slice y.1 y.2.1 y.2.2.1) y.2.2.2 ∧ ∀ x ∈ y.2.2.2, x.Wf := fun i hi => by
    have h3 := hy i hi
    rw [cellsOf_items, Nat.mul_one, List.getElem?_eq_getElem (by omega)] at h3
    exact open_items1 h3
  obtain ⟨E, hE⟩ := choose_lt each
  refine ⟨⟨fun i => (E i).1, fun i => (E i).2.1, fun i => (E i).2.2.1⟩, ⟨fun i => (E i).2.2.2, L, G⟩, ?_, fun i hi => (hE i hi).2.1, fun i hi => (hE i hi).2.2, bounds_of_i64 w1, bounds_of_i64 w2⟩
  have d8 := one_of e1
  have d9 := one_of e2
  have d : ∀ i, i < 8 → cs[i]? = some (.slice (E i).1 (E i).2.1 (E i).2.2.1) := fun i hi => by
    have := one_of (hE i hi).1
    rw [List.getElem?_take, if_pos hi] at this
    exact this
  have d0 := d 0 (by omega)
  have d1 := d 1 (by omega)
  have d2 := d 2 (by omega)
  have d3 := d 3 (by omega)
  have d4 := d 4 (by omega)
  have d5 := d 5 (by omega)
  have d6 := d 6 (by omega)
  have d7 := d 7 (by omega)
  clear d hE each hy hf
  match cs, hlen, d0, d1, d2, d3, d4, d5, d6, d7, d8, d9 with
  | [a0, a1, a2, a3, a4, a5, a6, a7, a8, a9], _, d0, d1, d2, d3, d4, d5, d6, d7, d8, d9 =>
    simp at d0 d1 d2 d3 d4 d5 d6 d7 d8 d9
    subst d0 d1 d2 d3 d4 d5 d6 d7 d8 d9
    rfl
theorem open_mapv {cs : Array Value} {d : DataW H} {p : List MemPlace} (h : DataW.Trod enc Tryz.prog w 0 (fun _ => true) true 25 (.agg cs) d p) :
    ∃ y : Sl × Mp, cs = mapC y.1 y.2.live y.2.garb ∧ RdM w y.1 y.2.st ∧ (∀ i, i < 8 → ∀ x ∈ y.2.st i, x.Wf) ∧ (-9223372036854775808 ≤ y.2.live ∧ y.2.live ≤ 9223372036854775807) ∧ (-9223372036854775808 ≤ y.2.garb ∧ y.2.garb ≤ 9223372036854775807) := by
  obtain ⟨fuel, hf⟩ := h
  obtain ⟨s, M, h1, h2⟩ := open_map hf
  have h1 : cs.toList = (mapC s M.live M.garb).toList := h1
  exact ⟨(s, M), Array.ext' h1, h2⟩
end
end Go.Proofs.YtenkeodfijladaaGreatDoor

namespace Go.Proofs.YtenkeodfijladaaGreatDoor
open Go.RowKit Go.ChangeShapes Go.WideShapes Go.Deep

theorem rdN_nil' (w : World) : RdN w (.slice none 0 0) [] := ⟨own_rd (World.ownsRow_nil w 0 36 4), fun p hp => by cases hp⟩
theorem structN : ∃ f0 f1 f2 f3, Tryz.prog.underlying 36 = some (.struct #[f0, f1, f2, f3]) ∧ (f0.offset = 0 ∧ f1.offset = 1 ∧ f2.offset = 2 ∧ f3.offset = 3) ∧ f0.type = 32 ∧ f1.type = 33 ∧ f2.type = 4 ∧ f3.type = 34 :=
  ⟨_, _, _, _, Tryz.underlying36, ⟨rfl, rfl, rfl, rfl⟩, rfl, rfl, rfl, rfl⟩
theorem cellsOfN : Tryz.prog.cellsOf 36 = 4 := by kernel_rfl
theorem cellsOf_bool : Tryz.prog.cellsOf 4 = 1 := by kernel_rfl
theorem cellsOf_bytes : Tryz.prog.cellsOf 34 = 1 := by kernel_rfl
section
variable {H : Type} {enc : TypeId × Value → H} {w : World}
theorem open_bytes {fuel : Nat} {cs : List Value} {x : DataW H × List MemPlace} (h : DataW.trod enc Tryz.prog w 0 (fun _ => true) true fuel 34 cs = some x) : ∃ (v : Value) (l : List UInt8), cs = [v] ∧ RdB w v l := by
  rcases open_ints Tryz.underlying34 Tryz.underlying5 (by kernel_rfl) h with ⟨hcs, _⟩ | ⟨x, l, c, zs, hcs, _, hl, hm, hz, _, hcell, hwz⟩
  · exact ⟨_, [], hcs, RdB_nil w⟩
  · obtain ⟨r, _, hr⟩ := isRow_bytes (w := w) (a := some x) (len := l) (cap := c) (zs := zs) (.inr ⟨_, rfl, hl, hm, by simpa using hz, hcell, hwz⟩)
    exact ⟨_, r, hcs, hr⟩
theorem open_need {fuel : Nat} {cs : List Value} {x : DataW H × List MemPlace} (h : DataW.trod enc Tryz.prog w 0 (fun _ => true) true fuel 36 cs = some x) : ∃ y : Nd × Value, cs = needC y ∧ y.1.Wf ∧ RdB w y.2 y.1.data := by
  obtain ⟨f0, f1, f2, f3, hs, ⟨o0, o1, o2, o3⟩, t0, t1, t2, t3⟩ := structN
  obtain ⟨xs, n, _, _, hlen, hxl, hf⟩ := DataW.trod_struct hs h
  rw [cellsOfN] at hlen
  have hx : xs.length = 4 := by simpa using hxl
  have g : ∀ j (hj : j < 4), xs[j]? = some (xs[j]'(by omega)) := fun j hj => List.getElem?_eq_getElem (by omega)
  have h0 := (hf 0 f0 rfl).trans (g 0 (by omega))
  have h1 := (hf 1 f1 rfl).trans (g 1 (by omega))
  have h2 := (hf 2 f2 rfl).trans (g 2 (by omega))
  have h3 := (hf 3 f3 rfl).trans (g 3 (by omega))
  rw [t0, o0, cellsOf_u64] at h0
  rw [t1, o1, cellsOf_u32] at h1
  rw [t2, o2, cellsOf_bool] at h2
  rw [t3, o3, cellsOf_bytes] at h3
  obtain ⟨k, e0, _, w0⟩ := DataW.trod_int Tryz.underlying32 h0
  obtain ⟨c, e1, _, w1⟩ := DataW.trod_int Tryz.underlying33 h1
  obtain ⟨d, e2, _⟩ := DataW.trod_bool Tryz.underlying4 h2
  obtain ⟨v, l, e3, hr⟩ := open_bytes h3
  have d0 := one_of e0
  have d1 := one_of e1
  have d2 := one_of e2
  have d3 := one_of e3
  have b0 := bounds_of_u64 w0
  have b1 := bounds_of_u32 w1
  obtain ⟨k, rfl⟩ := Int.eq_ofNat_of_zero_le b0.1
  obtain ⟨c, rfl⟩ := Int.eq_ofNat_of_zero_le b1.1
  refine ⟨(⟨k, c, d, l⟩, v), ?_, show k < 18446744073709551616 ∧ c < 4294967296 by omega, hr⟩
  match cs, hlen, d0, d1, d2, d3 with
  | [a, b, c', d], _, d0, d1, d2, d3 =>
    simp at d0 d1 d2 d3
    subst d0 d1 d2 d3
    rfl
theorem open_needs {a : Option Addr} {n cap : Nat} {d : DataW H} {p : List MemPlace} (h : DataW.Trod enc Tryz.prog w 0 (fun _ => true) true 28 (.slice a n cap) d p) :
    ∃ l : List (Nd × Value), RdN w (.slice a n cap) l ∧ ∀ x ∈ l, x.1.Wf := by
  obtain ⟨fuel, hf⟩ := h
  rcases open_slice Tryz.underlying28 hf with ⟨hcs, _⟩ | ⟨x, len, cap', m, k, D, Pl, hcs, _, hl, hm, hmm, _, hx⟩
  · simp [Value.cells] at hcs
    obtain ⟨rfl, rfl, rfl⟩ := hcs
    exact ⟨[], rdN_nil' w, fun e he => by cases he⟩
  · simp [Value.cells] at hcs
    obtain ⟨rfl, rfl, rfl⟩ := hcs
    simp only [if_true] at hmm
    subst hmm
    rw [cellsOfN] at hx
    haveI : Inhabited (Nd × Value) := ⟨(nd0, .slice none 0 0)⟩
    have each : ∀ i, i < n → ∃ y : Nd × Value, (∀ j, j < 4 → w.cell? (x.add (i * 4 + j)) = (needC y)[j]?) ∧ y.1.Wf ∧ RdB w y.2 y.1.data := fun i hi => by
      obtain ⟨cs', h1, h2⟩ := hx i (by omega)
      obtain ⟨y, rfl, hy⟩ := open_need h2
      obtain ⟨_, _, hc⟩ := World.cells?_some h1
      exact ⟨y, fun j hj => by rw [← hc j hj, Go.Deep.add_add], hy⟩
    obtain ⟨E, hE⟩ := choose_lt each
    refine ⟨(List.range n).map E, ⟨?_, fun e he => ?_⟩, fun e he => ?_⟩
    · rw [List.length_map, List.length_range]
      refine ⟨by rw [needsC_length]; simp, some x, m, by simp, by simpa using hl, hm, fun h => by simp at h, fun hp => ?_⟩
      have hn : 0 < n := by
        rw [needsC_length] at hp; simp at hp; omega
      obtain ⟨b, off, spot⟩ := x
      have hspot : spot = none := by
        have h0 : w.cell? ((⟨b, off, spot⟩ : Addr).add (0 * 4 + 0)) = some (.int .u64 ((E 0).1.key : Int)) := ((hE 0 hn).1 0 (by omega)).trans rfl
        simpa [Addr.add] using World.cell?_spot h0
      subst hspot
      refine ⟨b, off, rfl, fun j u hj => ?_⟩
      have hjl : j < n * 4 := by
        have := (List.getElem?_eq_some_iff.1 hj).1
        rw [needsC_length] at this
        simpa using this
      have hat := flat_at 4 needC (nd0, .slice none 0 0) ((List.range n).map E) (fun _ _ => rfl) (j / 4) (j % 4) (by simp; omega) (by omega)
      rw [show j / 4 * 4 + j % 4 = j by omega] at hat
      have hg : ((List.range n).map E).getD (j / 4) (nd0, .slice none 0 0) = E (j / 4) := by
        rw [List.getD_eq_getElem?_getD, List.getElem?_map, List.getElem?_range (by omega)]; rfl
      rw [hg] at hat
      have hc := (hE (j / 4) (by omega)).1 (j % 4) (by omega)
      rw [show j / 4 * 4 + j % 4 = j by omega, addr_add] at hc
      rw [hc, ← hat]; exact hj
    · obtain ⟨i, hi, rfl⟩ := List.mem_map.1 he
      exact (hE i (List.mem_range.1 hi)).2.2
    · obtain ⟨i, hi, rfl⟩ := List.mem_map.1 he
      exact (hE i (List.mem_range.1 hi)).2.1
end
theorem cellsOf_gen : Tryz.prog.cellsOf 27 = 14 := by kernel_rfl
theorem cellsOf_int1 : Tryz.prog.cellsOf 3 = 1 := by kernel_rfl
theorem structG : ∃ f0 f1 f2 f3 f4, Tryz.prog.underlying 27 = some (.struct #[f0, f1, f2, f3, f4]) ∧ (f0.offset = 0 ∧ f1.offset = 1 ∧ f2.offset = 2 ∧ f3.offset = 3 ∧ f4.offset = 4) ∧ f0.type = 3 ∧ f1.type = 2 ∧ f2.type = 3 ∧ f3.type = 2 ∧ f4.type = 25 :=
  ⟨_, _, _, _, _, Tryz.underlying27, ⟨rfl, rfl, rfl, rfl, rfl⟩, rfl, rfl, rfl, rfl, rfl⟩
section
variable {H : Type} {enc : TypeId × Value → H} {w : World}
/-- What is known of a generation's values. -/
structure GnWf (g : Gn) : Prop where
  num : -9223372036854775808 ≤ g.num ∧ g.num ≤ 9223372036854775807
  rev : -9223372036854775808 ≤ g.rev ∧ g.rev ≤ 9223372036854775807
  mode : -9223372036854775808 ≤ g.mode ∧ g.mode ≤ 9223372036854775807
  size : -9223372036854775808 ≤ g.size ∧ g.size ≤ 9223372036854775807
  live : -9223372036854775808 ≤ g.m.live ∧ g.m.live ≤ 9223372036854775807
  garb : -9223372036854775808 ≤ g.m.garb ∧ g.m.garb ≤ 9223372036854775807
  its : ∀ i, i < 8 → ∀ x ∈ g.m.st i, x.Wf
theorem open_gen {fuel : Nat} {cs : List Value} {x : DataW H × List MemPlace} (h : DataW.trod enc Tryz.prog w 0 (fun _ => true) true fuel 27 cs = some x) :
    ∃ (s : Sl) (g : Gn), cs = (genC g.num g.rev g.mode g.size s g.m.live g.m.garb).toList ∧ RdM w s g.m.st ∧ GnWf g := by
  obtain ⟨f0, f1, f2, f3, f4, hs, ⟨o0, o1, o2, o3, o4⟩, t0, t1, t2, t3, t4⟩ := structG
  obtain ⟨xs, n, _, _, hlen, hxl, hf⟩ := DataW.trod_struct hs h
  rw [cellsOf_gen] at hlen
  have hx : xs.length = 5 := by simpa using hxl
  have g : ∀ j (hj : j < 5), xs[j]? = some (xs[j]'(by omega)) := fun j hj => List.getElem?_eq_getElem (by omega)
  have h0 := (hf 0 f0 rfl).trans (g 0 (by omega))
  have h1 := (hf 1 f1 rfl).trans (g 1 (by omega))
  have h2 := (hf 2 f2 rfl).trans (g 2 (by omega))
  have h3 := (hf 3 f3 rfl).trans (g 3 (by omega))
  have h4 := (hf 4 f4 rfl).trans (g 4 (by omega))
  rw [t0, o0, cellsOf_int1] at h0
  rw [t1, o1, cellsOf_i64] at h1
  rw [t2, o2, cellsOf_int1] at h2
  rw [t3, o3, cellsOf_i64] at h3
  rw [t4, o4, cellsOf_map] at h4
  obtain ⟨k0, e0, _, w0⟩ := DataW.trod_int Tryz.underlying3 h0
  obtain ⟨k1, e1, _, w1⟩ := DataW.trod_int Tryz.underlying2 h1
  obtain ⟨k2, e2, _, w2⟩ := DataW.trod_int Tryz.underlying3 h2
  obtain ⟨k3, e3, _, w3⟩ := DataW.trod_int Tryz.underlying2 h3
  obtain ⟨s, M, e4, hr, hi, hl, hg⟩ := open_map h4
  have d0 := one_of e0
  have d1 := one_of e1
  have d2 := one_of e2
  have d3 := one_of e3
  refine ⟨s, ⟨k0, k1, k2, k3, M⟩, ?_, hr, ⟨bounds_of_i64 w0, bounds_of_i64 w1, bounds_of_i64 w2, bounds_of_i64 w3, hl, hg, hi⟩⟩
  clear hf h0 h1 h2 h3 h4 hr hi hl hg e0 e1 e2 e3
  match cs, hlen, d0, d1, d2, d3, e4 with
  | [a0, a1, a2, a3, a4, a5, a6, a7, a8, a9, a10, a11, a12, a13], _, d0, d1, d2, d3, e4 =>
    simp at d0 d1 d2 d3 e4
    obtain ⟨rfl, rfl, rfl, rfl, rfl, rfl, rfl, rfl, rfl, rfl⟩ := e4
    subst d0 d1 d2 d3
    rfl
theorem open_genv {cs : Array Value} {d : DataW H} {p : List MemPlace} (h : DataW.Trod enc Tryz.prog w 0 (fun _ => true) true 27 (.agg cs) d p) :
    ∃ y : Sl × Gn, cs = genC y.2.num y.2.rev y.2.mode y.2.size y.1 y.2.m.live y.2.m.garb ∧ RdM w y.1 y.2.m.st ∧ GnWf y.2 := by
  obtain ⟨fuel, hf⟩ := h
  obtain ⟨s, g, h1, h2⟩ := open_gen hf
  have h1 : cs.toList = (genC g.num g.rev g.mode g.size s g.m.live g.m.garb).toList := h1
  exact ⟨(s, g), Array.ext' h1, h2⟩
end
end Go.Proofs.YtenkeodfijladaaGreatDoor

namespace Go.Proofs.YtenkeodfijladaaGreatDoor
open Go.RowKit

theorem changes_open (q : Sl × Gn) (a : Option Addr) (n cap : Nat) (b : Option Addr) (m cap2 : Nat) (mode : Int) (ka : Option Addr) (kn kc : Nat) (zs : List Int) (rev size : Int) (w : World) (h0 : RdM w q.1 q.2.m.st ∧ GnWf q.2)
    (h : ∃ l : List (Nd × Value), RdN w (.slice a n cap) l ∧ ∀ x ∈ l, x.1.Wf) (h2 : ∃ l : List (Nd × Value), RdN w (.slice b m cap2) l ∧ ∀ x ∈ l, x.1.Wf) (_ : (Lit.int .i64 mode).wf = true) (hg : IsRow .u64 w ka kn kc zs)
    (_ : (Lit.int .i64 rev).wf = true) (_ : (Lit.int .i64 size).wf = true) :
    Calls Tryz.prog 3 #[.agg (genC q.2.num q.2.rev q.2.mode q.2.size q.1 q.2.m.live q.2.m.garb), .slice a n cap, .slice b m cap2, .int .i64 mode, .slice ka kn kc, .int .i64 rev, .int .i64 size] w fun e w' => e = .returned (.bool true) ∧ Below w.heap.size w w' := by
  obtain ⟨l, h1, hw⟩ := h
  obtain ⟨l2, h3, hw2⟩ := h2
  obtain ⟨g1, g2⟩ := isRow_rd hg
  exact changes_walk12 q _ _ _ l l2 (zs.take kn) mode rev size w h0.1 h1 hw h3 hw2 (by unfold RdU RdL; rw [g1]; exact g2)
end Go.Proofs.YtenkeodfijladaaGreatDoor
