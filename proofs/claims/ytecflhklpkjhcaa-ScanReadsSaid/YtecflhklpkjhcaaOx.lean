/- What is known of a slice of needles that came in; ScanReads, from what the form gives. -/
import Derived.Test.YtecflhklpkjhcaaRw
import Derived.Test.YtecflhklpkjhcaaOp
import Derived.Deep.Slices
import Derived.Deep.SlicePairs
import Derived.ChangeArms
namespace Go.Proofs.Ytecflhklpkjhcaa
open Go.RowKit Go.ChangeShapes Go.WideShapes Go.Deep

theorem structN : ∃ f0 f1 f2 f3, Try.prog.underlying 31 = some (.struct #[f0, f1, f2, f3]) ∧ (f0.offset = 0 ∧ f1.offset = 1 ∧ f2.offset = 2 ∧ f3.offset = 3) ∧ f0.type = 28 ∧ f1.type = 29 ∧ f2.type = 4 ∧ f3.type = 23 :=
  ⟨_, _, _, _, Try.underlying31, ⟨rfl, rfl, rfl, rfl⟩, rfl, rfl, rfl, rfl⟩
theorem cellsOfN : Try.prog.cellsOf 31 = 4 := by kernel_rfl
theorem cellsOf_bool : Try.prog.cellsOf 4 = 1 := by kernel_rfl
theorem cellsOf_bytes : Try.prog.cellsOf 23 = 1 := by kernel_rfl
section
variable {H : Type} {enc : TypeId × Value → H} {w : World}
theorem open_bytes {fuel : Nat} {cs : List Value} {x : DataW H × List MemPlace} (h : DataW.trod enc Try.prog w 0 (fun _ => true) true fuel 23 cs = some x) : ∃ (v : Value) (l : List UInt8), cs = [v] ∧ RdB w v l := by
  rcases open_ints Try.underlying23 Try.underlying5 (by kernel_rfl) h with ⟨hcs, _⟩ | ⟨x, l, c, zs, hcs, _, hl, hm, hz, _, hcell, hwz⟩
  · exact ⟨_, [], hcs, RdB_nil w⟩
  · obtain ⟨r, _, hr⟩ := isRow_bytes (w := w) (a := some x) (len := l) (cap := c) (zs := zs) (.inr ⟨_, rfl, hl, hm, by simpa using hz, hcell, hwz⟩)
    exact ⟨_, r, hcs, hr⟩
theorem open_need {fuel : Nat} {cs : List Value} {x : DataW H × List MemPlace} (h : DataW.trod enc Try.prog w 0 (fun _ => true) true fuel 31 cs = some x) : ∃ y : Nd × Value, cs = needC y ∧ y.1.Wf ∧ RdB w y.2 y.1.data := by
  obtain ⟨f0, f1, f2, f3, hs, ⟨o0, o1, o2, o3⟩, t0, t1, t2, t3⟩ := structN
  obtain ⟨xs, n, _, _, hlen, hxl, hf⟩ := DataW.trod_struct hs h
  rw [cellsOfN] at hlen
  have hx : xs.length = 4 := by simpa using hxl
  have g : ∀ j (hj : j < 4), xs[j]? = some (xs[j]'(by omega)) := fun j hj => List.getElem?_eq_getElem (by omega)
  have h0 := (hf 0 f0 rfl).trans (g 0 (by omega))
  have h1 := (hf 1 f1 rfl).trans (g 1 (by omega))
  have h2 := (hf 2 f2 rfl).trans (g 2 (by omega))
  have h3 := (hf 3 f3 rfl).trans (g 3 (by omega))
  rw [t0, o0, cellsOf_u64] at h0
  rw [t1, o1, cellsOf_u32] at h1
  rw [t2, o2, cellsOf_bool] at h2
  rw [t3, o3, cellsOf_bytes] at h3
  obtain ⟨k, e0, _, w0⟩ := DataW.trod_int Try.underlying28 h0
  obtain ⟨c, e1, _, w1⟩ := DataW.trod_int Try.underlying29 h1
  obtain ⟨d, e2, _⟩ := DataW.trod_bool Try.underlying4 h2
  obtain ⟨v, l, e3, hr⟩ := open_bytes h3
  have d0 := one_of e0
  have d1 := one_of e1
  have d2 := one_of e2
  have d3 := one_of e3
  have b0 := bounds_of_u64 w0
  have b1 := bounds_of_u32 w1
  obtain ⟨k, rfl⟩ := Int.eq_ofNat_of_zero_le b0.1
  obtain ⟨c, rfl⟩ := Int.eq_ofNat_of_zero_le b1.1
  refine ⟨(⟨k, c, d, l⟩, v), ?_, show k < 18446744073709551616 ∧ c < 4294967296 by omega, hr⟩
  match cs, hlen, d0, d1, d2, d3 with
  | [a, b, c', d], _, d0, d1, d2, d3 =>
    simp at d0 d1 d2 d3
    subst d0 d1 d2 d3
    rfl
theorem open_needs {a : Option Addr} {n cap : Nat} {d : DataW H} {p : List MemPlace} (h : DataW.Trod enc Try.prog w 0 (fun _ => true) true 22 (.slice a n cap) d p) :
    ∃ l : List (Nd × Value), RdN w (.slice a n cap) l ∧ ∀ x ∈ l, x.1.Wf := by
  obtain ⟨fuel, hf⟩ := h
  rcases open_slice Try.underlying22 hf with ⟨hcs, _⟩ | ⟨x, len, cap', m, k, D, Pl, hcs, _, hl, hm, hmm, _, hx⟩
  · simp [Value.cells] at hcs
    obtain ⟨rfl, rfl, rfl⟩ := hcs
    exact ⟨[], rdN_nil w, fun e he => by cases he⟩
  · simp [Value.cells] at hcs
    obtain ⟨rfl, rfl, rfl⟩ := hcs
    simp only [if_true] at hmm
    subst hmm
    rw [cellsOfN] at hx
    haveI : Inhabited (Nd × Value) := ⟨(nd0, .slice none 0 0)⟩
    have each : ∀ i, i < n → ∃ y : Nd × Value, (∀ j, j < 4 → w.cell? (x.add (i * 4 + j)) = (needC y)[j]?) ∧ y.1.Wf ∧ RdB w y.2 y.1.data := fun i hi => by
      obtain ⟨cs', h1, h2⟩ := hx i (by omega)
      obtain ⟨y, rfl, hy⟩ := open_need h2
      obtain ⟨_, _, hc⟩ := World.cells?_some h1
      exact ⟨y, fun j hj => by rw [← hc j hj, Go.Deep.add_add], hy⟩
    obtain ⟨E, hE⟩ := choose_lt each
    refine ⟨(List.range n).map E, ⟨?_, fun e he => ?_⟩, fun e he => ?_⟩
    · rw [List.length_map, List.length_range]
      refine ⟨by rw [needsC_length]; simp, some x, m, by simp, by simpa using hl, hm, fun h => by simp at h, fun hp => ?_⟩
      have hn : 0 < n := by
        rw [needsC_length] at hp; simp at hp; omega
      obtain ⟨b, off, spot⟩ := x
      have hspot : spot = none := by
        have h0 : w.cell? ((⟨b, off, spot⟩ : Addr).add (0 * 4 + 0)) = some (.int .u64 ((E 0).1.key : Int)) := ((hE 0 hn).1 0 (by omega)).trans rfl
        simpa [Addr.add] using World.cell?_spot h0
      subst hspot
      refine ⟨b, off, rfl, fun j u hj => ?_⟩
      have hjl : j < n * 4 := by
        have := (List.getElem?_eq_some_iff.1 hj).1
        rw [needsC_length] at this
        simpa using this
      have hat := flat_at 4 needC (nd0, .slice none 0 0) ((List.range n).map E) (fun _ _ => rfl) (j / 4) (j % 4) (by simp; omega) (by omega)
      rw [show j / 4 * 4 + j % 4 = j by omega] at hat
      have hg : ((List.range n).map E).getD (j / 4) (nd0, .slice none 0 0) = E (j / 4) := by
        rw [List.getD_eq_getElem?_getD, List.getElem?_map, List.getElem?_range (by omega)]; rfl
      rw [hg] at hat
      have hc := (hE (j / 4) (by omega)).1 (j % 4) (by omega)
      rw [show j / 4 * 4 + j % 4 = j by omega, addr_add] at hc
      rw [hc, ← hat]; exact hj
    · obtain ⟨i, hi, rfl⟩ := List.mem_map.1 he
      exact (hE i (List.mem_range.1 hi)).2.2
    · obtain ⟨i, hi, rfl⟩ := List.mem_map.1 he
      exact (hE i (List.mem_range.1 hi)).2.1
end
theorem reads_open (a : Option Addr) (n cap : Nat) (b : Option Addr) (k c : Nat) (zs : List Int) (w : World) (h : ∃ l, RdN w (.slice a n cap) l ∧ ∀ x ∈ l, x.1.Wf) (h2 : IsRow .u8 w b k c zs) :
    Calls Try.prog 3 #[.slice a n cap, .slice b k c] w fun e w' => e = .returned (.bool true) ∧ Below w.heap.size w w' := by
  obtain ⟨l, hl, hw⟩ := h
  obtain ⟨raw, hr, ht⟩ := isRow_bytes h2
  exact reads_walk _ _ l raw w hl hw ht
end Go.Proofs.Ytecflhklpkjhcaa
