/- Several texts in one, each over the last: What is known of a slice of items that came in. What is known of a slice of structs that came in: rows of cells, of which each opens. Slices of uint64. What is known of slices of bools and of uint16 that came in. -/
import Derived.Test.YtndhjfmdfcpceaaIt
import Derived.Deep.Slices
import Derived.Deep.SlicePairs
import Derived.ChangeArms
import Derived.Test.YtndhjfmdfcpceaaDf
namespace Go.Proofs.Ytndhjfmdfcpceaa
open Go.RowKit Go.ChangeShapes Go.WideShapes Go.Deep

theorem structT : ∃ f0 f1 f2 f3, Try.prog.underlying 29 = some (.struct #[f0, f1, f2, f3]) ∧ (f0.offset = 0 ∧ f1.offset = 1 ∧ f2.offset = 2 ∧ f3.offset = 3) ∧ f0.type = 26 ∧ f1.type = 27 ∧ f2.type = 2 ∧ f3.type = 3 :=
  ⟨_, _, _, _, Try.underlying29, ⟨rfl, rfl, rfl, rfl⟩, rfl, rfl, rfl, rfl⟩
theorem cellsOfT : Try.prog.cellsOf 29 = 4 := by kernel_rfl
theorem cellsOf_u64 : Try.prog.cellsOf 26 = 1 := by kernel_rfl
theorem cellsOf_u32 : Try.prog.cellsOf 27 = 1 := by kernel_rfl
theorem cellsOf_i64 : Try.prog.cellsOf 2 = 1 := by kernel_rfl
theorem cellsOf_int : Try.prog.cellsOf 3 = 1 := by kernel_rfl
section
variable {H : Type} {enc : TypeId × Value → H} {w : World}
theorem one_of {cs : List Value} {i : Nat} {u : Value} (h : (cs.drop i).take 1 = [u]) : cs[i]? = some u := by
  have h1 : ((cs.drop i).take 1)[0]? = some u := by rw [h]; rfl
  rw [List.getElem?_take, if_pos (by decide), List.getElem?_drop, Nat.add_zero] at h1
  exact h1
theorem open_item {fuel : Nat} {cs : List Value} {x : DataW H × List MemPlace} (h : DataW.trod enc Try.prog w 0 (fun _ => true) true fuel 29 cs = some x) : ∃ y : It, cs = itC y ∧ y.Wf := by
  obtain ⟨f0, f1, f2, f3, hs, ⟨o0, o1, o2, o3⟩, t0, t1, t2, t3⟩ := structT
  obtain ⟨xs, n, _, _, hlen, hxl, hf⟩ := DataW.trod_struct hs h
  rw [cellsOfT] at hlen
  have hx : xs.length = 4 := by simpa using hxl
  have g : ∀ j (hj : j < 4), xs[j]? = some (xs[j]'(by omega)) := fun j hj => List.getElem?_eq_getElem (by omega)
  have h0 := (hf 0 f0 rfl).trans (g 0 (by omega))
  have h1 := (hf 1 f1 rfl).trans (g 1 (by omega))
  have h2 := (hf 2 f2 rfl).trans (g 2 (by omega))
  have h3 := (hf 3 f3 rfl).trans (g 3 (by omega))
  rw [t0, o0, cellsOf_u64] at h0
  rw [t1, o1, cellsOf_u32] at h1
  rw [t2, o2, cellsOf_i64] at h2
  rw [t3, o3, cellsOf_int] at h3
  obtain ⟨k, e0, _, w0⟩ := DataW.trod_int Try.underlying26 h0
  obtain ⟨c, e1, _, w1⟩ := DataW.trod_int Try.underlying27 h1
  obtain ⟨o, e2, _, w2⟩ := DataW.trod_int Try.underlying2 h2
  obtain ⟨s, e3, _, w3⟩ := DataW.trod_int Try.underlying3 h3
  have d0 := one_of e0
  have d1 := one_of e1
  have d2 := one_of e2
  have d3 := one_of e3
  have b0 := bounds_of_u64 w0
  have b1 := bounds_of_u32 w1
  have b2 := bounds_of_i64 w2
  have b3 := bounds_of_i64 w3
  refine ⟨⟨k, c, o, s⟩, ?_, show 0 ≤ k ∧ k < 18446744073709551616 ∧ 0 ≤ c ∧ c < 4294967296 ∧ -9223372036854775808 ≤ o ∧ o ≤ 9223372036854775807 ∧ -9223372036854775808 ≤ s ∧ s ≤ 9223372036854775807 by omega⟩
  match cs, hlen, d0, d1, d2, d3 with
  | [a, b, c', d], _, d0, d1, d2, d3 =>
    simp at d0 d1 d2 d3
    subst d0 d1 d2 d3
    rfl
theorem open_items {a : Option Addr} {n cap : Nat} {d : DataW H} {p : List MemPlace} (h : DataW.Trod enc Try.prog w 0 (fun _ => true) true 22 (.slice a n cap) d p) :
    ∃ l : List It, RdT w (.slice a n cap) l ∧ ∀ x ∈ l, x.Wf := by
  obtain ⟨fuel, hf⟩ := h
  rcases open_slice Try.underlying22 hf with ⟨hcs, _⟩ | ⟨x, len, cap', m, k, D, Pl, hcs, _, hl, hm, hmm, _, hx⟩
  · simp [Value.cells] at hcs
    obtain ⟨rfl, rfl, rfl⟩ := hcs
    exact ⟨[], RdS.nil 4 itC w, fun e he => by cases he⟩
  · simp [Value.cells] at hcs
    obtain ⟨rfl, rfl, rfl⟩ := hcs
    simp only [if_true] at hmm
    subst hmm
    rw [cellsOfT] at hx
    have each : ∀ i, i < n → ∃ y : It, (∀ j, j < 4 → w.cell? (x.add (i * 4 + j)) = (itC y)[j]?) ∧ y.Wf := fun i hi => by
      obtain ⟨cs', h1, h2⟩ := hx i (by omega)
      obtain ⟨y, rfl, hy⟩ := open_item h2
      obtain ⟨_, _, hc⟩ := World.cells?_some h1
      exact ⟨y, fun j hj => by rw [← hc j hj, Go.Deep.add_add], hy⟩
    obtain ⟨E, hE⟩ := choose_lt each
    refine ⟨(List.range n).map E, rd_rdT (n := n) ⟨by rw [itsC_length]; simp, some x, m, by simp, by simpa using hl, hm, fun h => by simp at h, fun hp => ?_⟩, fun e he => ?_⟩
    · have hn : 0 < n := by
        rw [itsC_length] at hp; simp at hp; omega
      obtain ⟨b, off, spot⟩ := x
      have hspot : spot = none := by
        have h0 : w.cell? ((⟨b, off, spot⟩ : Addr).add (0 * 4 + 0)) = some (.int .u64 (E 0).key) := ((hE 0 hn).1 0 (by omega)).trans rfl
        simpa [Addr.add] using World.cell?_spot h0
      subst hspot
      refine ⟨b, off, rfl, fun j u hj => ?_⟩
      have hjl : j < n * 4 := by
        have := (List.getElem?_eq_some_iff.1 hj).1
        rw [itsC_length] at this
        simpa using this
      have hat := flat_at 4 itC it0 ((List.range n).map E) (fun _ _ => rfl) (j / 4) (j % 4) (by simp; omega) (by omega)
      rw [show j / 4 * 4 + j % 4 = j by omega] at hat
      have hg : ((List.range n).map E).getD (j / 4) it0 = E (j / 4) := by
        rw [List.getD_eq_getElem?_getD, List.getElem?_map, List.getElem?_range (by omega)]; rfl
      rw [hg] at hat
      have hc := (hE (j / 4) (by omega)).1 (j % 4) (by omega)
      rw [show j / 4 * 4 + j % 4 = j by omega, addr_add] at hc
      rw [hc, ← hat]; exact hj
    · obtain ⟨i, hi, rfl⟩ := List.mem_map.1 he
      exact (hE i (List.mem_range.1 hi)).2
end
end Go.Proofs.Ytndhjfmdfcpceaa

namespace Go.Proofs.Ytndhjfmdfcpceaa
open Go.RowKit Go.ChangeShapes Go.WideShapes Go.Deep

theorem open_rows {H : Type} {enc : TypeId × Value → H} {w : World} {α : Type} (z : α) {t e : TypeId} {sz : Nat} (f : α → List Value) (Q : α → Prop) (hu : Try.prog.underlying t = some (.slice e)) (hc : Try.prog.cellsOf e = sz) (hf : ∀ x, (f x).length = sz) (hz : 0 < sz)
    (one : ∀ fuel cs x, DataW.trod enc Try.prog w 0 (fun _ => true) true fuel e cs = some x → ∃ y, cs = f y ∧ Q y)
    {a : Option Addr} {n cap : Nat} {d : DataW H} {p : List MemPlace} (h : DataW.Trod enc Try.prog w 0 (fun _ => true) true t (.slice a n cap) d p) :
    ∃ l : List α, RdS sz f w (.slice a n cap) l ∧ ∀ x ∈ l, Q x := by
  obtain ⟨fuel, hfu⟩ := h
  rcases open_slice hu hfu with ⟨hcs, _⟩ | ⟨x, len, cap', m, k, D, Pl, hcs, _, hl, hm, hmm, _, hx⟩
  · simp [Value.cells] at hcs
    obtain ⟨rfl, rfl, rfl⟩ := hcs
    exact ⟨[], RdS.nil sz f w, fun e he => by cases he⟩
  · simp [Value.cells] at hcs
    obtain ⟨rfl, rfl, rfl⟩ := hcs
    simp only [if_true] at hmm
    subst hmm
    rw [hc] at hx
    haveI : Inhabited α := ⟨z⟩
    have each : ∀ i, i < n → ∃ y : α, (∀ j, j < sz → w.cell? (x.add (i * sz + j)) = (f y)[j]?) ∧ Q y := fun i hi => by
      obtain ⟨cs', h1, h2⟩ := hx i (by omega)
      obtain ⟨y, rfl, hy⟩ := one _ _ _ h2
      obtain ⟨_, _, hc⟩ := World.cells?_some h1
      exact ⟨y, fun j hj => by rw [← hc j hj, Go.Deep.add_add], hy⟩
    obtain ⟨E, hE⟩ := choose_lt each
    have hfl := flat_length sz f ((List.range n).map E) (fun x _ => hf x)
    refine ⟨(List.range n).map E, ⟨fun x _ => hf x, ?_⟩, fun e he => ?_⟩
    · rw [List.length_map, List.length_range]
      rw [List.length_map, List.length_range] at hfl
      refine ⟨hfl, some x, m, by simp, by simpa using hl, hm, fun h => by simp at h, fun hp => ?_⟩
      have hn : 0 < n := by
        rw [hfl] at hp; exact Nat.pos_of_mul_pos_right hp
      obtain ⟨b, off, spot⟩ := x
      have hspot : spot = none := by
        have h0 := (hE 0 hn).1 0 hz
        rw [List.getElem?_eq_getElem (by rw [hf]; exact hz)] at h0
        simpa [Addr.add] using World.cell?_spot h0
      subst hspot
      refine ⟨b, off, rfl, fun j u hj => ?_⟩
      have hjl : j < n * sz := by
        have := (List.getElem?_eq_some_iff.1 hj).1
        rw [hfl] at this
        exact this
      have hjd : j / sz < n := (Nat.div_lt_iff_lt_mul hz).2 hjl
      have hjm : j % sz < sz := Nat.mod_lt _ hz
      have hat := flat_at sz f z ((List.range n).map E) (fun x _ => hf x) (j / sz) (j % sz) (by simpa using hjd) hjm
      have hjj : j / sz * sz + j % sz = j := by rw [Nat.mul_comm]; exact Nat.div_add_mod j sz
      rw [hjj] at hat
      have hg : ((List.range n).map E).getD (j / sz) z = E (j / sz) := by
        rw [List.getD_eq_getElem?_getD, List.getElem?_map, List.getElem?_range hjd]; rfl
      rw [hg] at hat
      have hc := (hE (j / sz) hjd).1 (j % sz) hjm
      rw [hjj, addr_add] at hc
      rw [hc, ← hat]; exact hj
    · obtain ⟨i, hi, rfl⟩ := List.mem_map.1 he
      exact (hE i (List.mem_range.1 hi)).2
end Go.Proofs.Ytndhjfmdfcpceaa

namespace Go.Proofs.Ytndhjfmdfcpceaa
open Go.RowKit

theorem elemU : ElemT Try.prog 41 26 1 8 := by
  obtain ⟨i, hi, hz, hs, hb⟩ := info_parts (P := Try.prog) (e := 26) (z := .int .u64 0) (size := 1) (bytes := 8) (by kernel_rfl)
  exact ⟨Try.underlying41, by decide, i, _, hi, hz, hs, hb, rfl⟩
theorem ulist_one (l : List Int) : ∀ u ∈ l.map u64V, u.oneCell' = true := one_map _ (fun _ => rfl) l
end Go.Proofs.Ytndhjfmdfcpceaa

namespace Go.Proofs.Ytndhjfmdfcpceaa
open Go.RowKit Go.ChangeShapes Go.WideShapes Go.Deep

abbrev u16V (n : Int) : Value := .int .u16 n
abbrev RdO (w : World) (v : Value) (l : List Bool) : Prop := RdL Value.bool w v l
abbrev RdH (w : World) (v : Value) (l : List Int) : Prop := RdL u16V w v l
def oat (l : List Bool) (j : Nat) : Bool := l.getD j false
theorem RdO.shape0 {w : World} {v : Value} {l : List Bool} (h : RdO w v l) : ∃ a cap, v = .slice a l.length cap ∧ l.length ≤ cap ∧ cap ≤ maxLen := by
  obtain ⟨a, cap, h1, h2, h3, _⟩ := RdL.shape h false
  exact ⟨a, cap, h1, h2, h3⟩
theorem RdO.at {w : World} {a : Option Addr} {n cap : Nat} {l : List Bool} (h : RdO w (.slice a n cap) l) {j : Nat} (hj : j < n) : ∃ b off, a = some ⟨b, off, none⟩ ∧ w.cell? ⟨b, off + j, none⟩ = some (.bool (oat l j)) := by
  obtain ⟨a', cap', e, h2, h3, _, h5⟩ := RdL.shape h false
  injection e with e1 e2 e3
  subst e1 e2 e3
  obtain ⟨b, off, e, hc⟩ := h5 (by omega)
  exact ⟨b, off, e, hc j hj⟩
theorem RdH.shape0 {w : World} {v : Value} {l : List Int} (h : RdH w v l) : ∃ a cap, v = .slice a l.length cap ∧ l.length ≤ cap ∧ cap ≤ maxLen := by
  obtain ⟨a, cap, h1, h2, h3, _⟩ := RdL.shape h 0
  exact ⟨a, cap, h1, h2, h3⟩
theorem RdH.at {w : World} {a : Option Addr} {n cap : Nat} {l : List Int} (h : RdH w (.slice a n cap) l) {j : Nat} (hj : j < n) : ∃ b off, a = some ⟨b, off, none⟩ ∧ w.cell? ⟨b, off + j, none⟩ = some (.int .u16 (uat l j)) := by
  obtain ⟨a', cap', e, h2, h3, _, h5⟩ := RdL.shape h 0
  injection e with e1 e2 e3
  subst e1 e2 e3
  obtain ⟨b, off, e, hc⟩ := h5 (by omega)
  exact ⟨b, off, e, hc j hj⟩
theorem cellsOf_boolO : Try.prog.cellsOf 4 = 1 := by kernel_rfl
theorem cellsOf_u16 : Try.prog.cellsOf 64 = 1 := by kernel_rfl
theorem rdS_one {α : Type} {f : α → Value} {w : World} {v : Value} {l : List α} (h : RdS 1 (fun x => [f x]) w v l) : RdL f w v l := by
  have e : l.flatMap (fun x => [f x]) = l.map f := by
    clear h
    induction l with
    | nil => rfl
    | cons x r ih => rw [List.flatMap_cons, List.map_cons, ih]; rfl
  have := h.2
  rw [e] at this
  exact this
section
variable {H : Type} {enc : TypeId × Value → H} {w : World}
theorem open_bools {a : Option Addr} {n cap : Nat} {d : DataW H} {p : List MemPlace} (h : DataW.Trod enc Try.prog w 0 (fun _ => true) true 60 (.slice a n cap) d p) :
    ∃ l : List Bool, RdO w (.slice a n cap) l := by
  obtain ⟨l, hl, _⟩ := open_rows false (fun x => [Value.bool x]) (fun _ => True) Try.underlying60 cellsOf_boolO (fun _ => rfl) (by decide) (fun fuel cs x hx => by
    obtain ⟨d, e, _⟩ := DataW.trod_bool Try.underlying4 hx
    exact ⟨_, e, trivial⟩) h
  exact ⟨l, rdS_one hl⟩
theorem open_u16s {a : Option Addr} {n cap : Nat} {d : DataW H} {p : List MemPlace} (h : DataW.Trod enc Try.prog w 0 (fun _ => true) true 62 (.slice a n cap) d p) :
    ∃ l : List Int, RdH w (.slice a n cap) l ∧ ∀ x ∈ l, 0 ≤ x ∧ x ≤ 65535 := by
  obtain ⟨l, hl, hq⟩ := open_rows (0 : Int) (fun x => [u16V x]) (fun x => 0 ≤ x ∧ x ≤ 65535) Try.underlying62 cellsOf_u16 (fun _ => rfl) (by decide) (fun fuel cs x hx => by
    obtain ⟨k, e, _, hw⟩ := DataW.trod_int Try.underlying64 hx
    exact ⟨k, e, by simp [Lit.wf, IntKind.min, IntKind.max, IntKind.signed, IntKind.bits] at hw; omega⟩) h
  exact ⟨l, rdS_one hl, hq⟩
end
end Go.Proofs.Ytndhjfmdfcpceaa
