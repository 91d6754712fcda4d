/- SchedFair: the argument of type []ref.Entry opened; the walk as the frame calls it. -/
import Derived.Test.YtffmdhloplindaaWo
import Derived.Deep.SlicePairs
import Derived.OpenShut
namespace Go.Proofs.Ytffmdhloplindaa
open Go.RowKit Go.Maps Go.ChangeShapes Go.WideShapes Go.Deep

theorem struct55 : ∃ f0 f1, Try.prog.underlying 55 = some (.struct #[f0, f1]) ∧ f0.offset = 0 ∧ f1.offset = 1 ∧ f0.type = 22 ∧ f1.type = 3 := ⟨_, _, Try.underlying55, rfl, rfl, rfl, rfl⟩
theorem cellsOf55 : Try.prog.cellsOf 55 = 2 := by kernel_rfl
theorem cellsOf22 : Try.prog.cellsOf 22 = 1 := by kernel_rfl
theorem cellsOf3 : Try.prog.cellsOf 3 = 1 := by kernel_rfl

section
variable {H : Type} {enc : TypeId × Value → H} {w : World}
/-- A slice of integers that lies in a cell. -/
theorem open_run {fuel : Nat} {v : Value} {x : DataW H × List MemPlace} (h : DataW.trod enc Try.prog w 0 (fun _ => true) true fuel 22 [v] = some x) : ∃ l : List Int, RdI w v l ∧ ∀ n ∈ l, Wf n := by
  rcases open_ints Try.underlying22 Try.underlying3 cellsOf3 h with ⟨hcs, _⟩ | ⟨a, len, cap, zs, hcs, _, hl, hm, hz, _, hcell, hwz⟩
  · injection hcs with hcs _
    subst hcs
    exact ⟨[], RdL.nil _ _, fun n hn => by cases hn⟩
  · injection hcs with hcs _
    subst hcs
    simp only [if_true] at hz
    have hr : IsRow .i64 w (some a) len cap zs := .inr ⟨a, rfl, hl, hm, hz, hcell, hwz⟩
    obtain ⟨l, h1, h2, h3⟩ := isRow_ints hr
    exact ⟨l, h2, h3⟩
theorem pairs_at {a : Addr} {V0 V1 : Nat → Value} {m : Nat} (h : ∀ i, i < m → w.cell? (a.add (i * 2)) = some (V0 i) ∧ w.cell? (a.add (i * 2 + 1)) = some (V1 i)) (hp : 0 < m) :
    ∃ b off, a = ⟨b, off, none⟩ ∧ ∀ i, i < m → w.cell? ⟨b, off + i * 2, none⟩ = some (V0 i) ∧ w.cell? ⟨b, off + (i * 2 + 1), none⟩ = some (V1 i) := by
  obtain ⟨b, off, spot⟩ := a
  have hspot : spot = none := by simpa [Addr.add] using World.cell?_spot (h 0 hp).1
  subst hspot
  exact ⟨b, off, rfl, fun j hj => by rw [← Go.WideShapes.add_plain, ← Go.WideShapes.add_plain]; exact h j hj⟩
theorem open_ents {a : Option Addr} {n cap : Nat} {d : DataW H} {p : List MemPlace} (h : DataW.Trod enc Try.prog w 0 (fun _ => true) true 33 (.slice a n cap) d p) :
    ∃ raw, RdE w (.slice a n cap) raw ∧ ∀ e ∈ raw, ∀ x ∈ e.run, Wf x := by
  obtain ⟨f0, f1, hs, o0, o1, t0, t1⟩ := struct55
  obtain ⟨fuel, hf⟩ := h
  rcases open_slice_pairs Try.underlying33 hs cellsOf55 o0 o1 (by rw [t0]; exact cellsOf22) (by rw [t1]; exact cellsOf3) hf with ⟨hcs, _⟩ | ⟨x, len, cap', m, k, V0, V1, D0, D1, P0, P1, hcs, _, hl, hm, hmm, _, hx⟩
  · simp [Value.cells] at hcs
    obtain ⟨rfl, rfl, rfl⟩ := hcs
    exact ⟨[], rde_nil w, fun e he => by cases he⟩
  · simp [Value.cells] at hcs
    obtain ⟨rfl, rfl, rfl⟩ := hcs
    simp only [if_true] at hmm
    subst hmm
    rw [t0, t1] at hx
    have each : ∀ i, i < n → ∃ e : En, RdI w (V0 i) e.run ∧ V1 i = .int .i64 e.pick ∧ ∀ z ∈ e.run, Wf z := fun i hi => by
      obtain ⟨_, _, h0, h1⟩ := hx i (by omega)
      obtain ⟨l, hr, hw⟩ := open_run h0
      obtain ⟨q, hq, _, _⟩ := DataW.trod_int Try.underlying3 h1
      injection hq with hq _
      exact ⟨⟨l, q⟩, hr, hq, hw⟩
    obtain ⟨E, hE⟩ := choose_lt each
    refine ⟨(List.range n).map E, ⟨(List.range n).map fun i => (V0 i, E i), by simp, ⟨fun _ _ => rfl, ?_⟩, fun p hp => ?_⟩, fun e he => ?_⟩
    · refine ⟨by rw [flat_length 2 enCells _ fun _ _ => rfl], some x, m, by simp, by simpa using hl, hm, fun h => by simp at h, fun hp => ?_⟩
      have hn : 0 < n := by
        rw [flat_length 2 enCells _ fun _ _ => rfl] at hp
        simp at hp; omega
      obtain ⟨b, off, rfl, hc⟩ := pairs_at (fun i hi => ⟨(hx i hi).1, (hx i hi).2.1⟩) (show 0 < m by omega)
      refine ⟨b, off, rfl, fun j u hj => ?_⟩
      have hjl : j < n * 2 := by
        have := (List.getElem?_eq_some_iff.1 hj).1
        rw [flat_length 2 enCells _ fun _ _ => rfl] at this
        simpa using this
      have hat := flat_at 2 enCells default ((List.range n).map fun i => (V0 i, E i)) (fun _ _ => rfl) (j / 2) (j % 2) (by simp; omega) (by omega)
      rw [show j / 2 * 2 + j % 2 = j by omega, hj] at hat
      have hg : ((List.range n).map fun i => (V0 i, E i)).getD (j / 2) default = (V0 (j / 2), E (j / 2)) := by
        rw [List.getD_eq_getElem?_getD, List.getElem?_map, List.getElem?_range (by omega)]; rfl
      rw [hg] at hat
      obtain ⟨c0, c1⟩ := hc (j / 2) (by omega)
      rcases Nat.mod_two_eq_zero_or_one j with h0 | h0
      · rw [h0] at hat
        have : u = V0 (j / 2) := by simpa [enCells] using hat
        rw [this, ← c0]; congr 2; omega
      · rw [h0] at hat
        have : u = V1 (j / 2) := by rw [(hE (j / 2) (by omega)).2.1]; simpa [enCells] using hat
        rw [this, ← c1]; congr 2; omega
    · obtain ⟨i, hi, rfl⟩ := List.mem_map.1 hp
      exact (hE i (List.mem_range.1 hi)).1
    · obtain ⟨i, hi, rfl⟩ := List.mem_map.1 he
      exact (hE i (List.mem_range.1 hi)).2.2
end
theorem fair_walk (a0 : Option Addr) (k0 c0 : Nat) (a1 : Option Addr) (k1 c1 : Nat) (z1 : List Int) (a2 : Option Addr) (k2 c2 : Nat) (z2 : List Int) (b task : Int) (w : World)
    (h0 : ∃ raw, RdE w (.slice a0 k0 c0) raw ∧ ∀ e ∈ raw, ∀ x ∈ e.run, Wf x) (h1 : IsRow .u8 w a1 k1 c1 z1) (h2 : IsRow .u8 w a2 k2 c2 z2) (_hb : (Lit.int .i64 b).wf = true) (ht : (Lit.int .i64 task).wf = true) :
    Calls Try.prog 7 #[.slice a0 k0 c0, .slice a1 k1 c1, .slice a2 k2 c2, .int .i64 b, .int .i64 task] w fun e w' => e = .returned (.bool true) ∧ Below w.heap.size w w' := by
  obtain ⟨raw, hr, hw⟩ := h0
  obtain ⟨l1, _, hr1⟩ := isRow_bytes h1
  obtain ⟨l2, _, hr2⟩ := isRow_bytes h2
  exact fairlaw_core _ _ _ raw l1 l2 b task w hr hw hr1 hr2 ht
end Go.Proofs.Ytffmdhloplindaa
