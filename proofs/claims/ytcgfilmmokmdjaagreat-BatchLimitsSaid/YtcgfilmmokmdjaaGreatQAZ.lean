/- A part of the walk. -/
import Derived.Test.YtcgfilmmokmdjaaGreatQAA
import Derived.Deep.Slices
import Derived.Deep.SlicePairs
import Derived.ChangeArms
import Derived.Test.YtcgfilmmokmdjaaGreatQAE
import Derived.Test.YtcgfilmmokmdjaaGreatQAJ
import Derived.Test.YtcgfilmmokmdjaaGreatQAI
import Derived.Test.YtcgfilmmokmdjaaGreatSkb
import Derived.Test.YtcgfilmmokmdjaaGreatBah
set_option linter.all false
namespace Go.Proofs.YtcgfilmmokmdjaaGreat
open Go.RowKit Go.ChangeShapes Go.WideShapes Go.Deep
theorem zAA : Tryz.prog.cellsOf 24 = 1 := by kernel_rfl
theorem kt : Tryz.prog.cellsOf 47 = 1 := by kernel_rfl
theorem zEH : Tryz.prog.cellsOf 2 = 1 := by kernel_rfl
section
variable {H : Type} {enc : TypeId × Value → H} {w : World}
theorem wR {cs : List Value} {i : Nat} {u : Value} (h : (cs.drop i).take 1 = [u]) : cs[i]? = some u := by
 have h1 : ((cs.drop i).take 1)[0]? = some u := by rw [h]; rfl
 rw [List.getElem?_take, if_pos (by decide), List.getElem?_drop, Nat.add_zero] at h1;exact h1
end
end Go.Proofs.YtcgfilmmokmdjaaGreat
namespace Go.Proofs.YtcgfilmmokmdjaaGreat
open Go.RowKit Go.ChangeShapes Go.WideShapes Go.Deep
end Go.Proofs.YtcgfilmmokmdjaaGreat
namespace Go.Proofs.YtcgfilmmokmdjaaGreat
open Go.RowKit Go.ChangeShapes Go.WideShapes Go.Deep
section
variable {H : Type} {enc : TypeId × Value → H} {w : World}
end
end Go.Proofs.YtcgfilmmokmdjaaGreat
namespace Go.Proofs.YtcgfilmmokmdjaaGreat
open Go.RowKit Go.ChangeShapes Go.WideShapes Go.Deep
theorem zHx (w : World) : RdN w (.slice none 0 0) [] := ⟨zv (World.ownsRow_nil w 0 56 4), fun p hp => by cases hp⟩
theorem zJz : ∃ f0 f1 f2 f3, Tryz.prog.underlying 56 = some (.struct #[f0, f1, f2, f3]) ∧ (f0.offset = 0 ∧ f1.offset = 1 ∧ f2.offset = 2 ∧ f3.offset = 3) ∧ f0.type = 24 ∧ f1.type = 47 ∧ f2.type = 4 ∧ f3.type = 54 :=
 ⟨_, _, _, _, Tryz.underlying56, ⟨rfl, rfl, rfl, rfl⟩, rfl, rfl, rfl, rfl⟩
theorem zEM : Tryz.prog.cellsOf 56 = 4 := by kernel_rfl
theorem zCf : Tryz.prog.cellsOf 4 = 1 := by kernel_rfl
theorem t7 : Tryz.prog.cellsOf 54 = 1 := by kernel_rfl
section
variable {H : Type} {enc : TypeId × Value → H} {w : World}
theorem zAU {fuel : Nat} {cs : List Value} {x : DataW H × List MemPlace} (h : DataW.trod enc Tryz.prog w 0 (fun _ => true) true fuel 54 cs = some x) : ∃ (v : Value) (l : List UInt8), cs = [v] ∧ RdB w v l := by
 rcases open_ints Tryz.underlying54 Tryz.underlying5 (by kernel_rfl) h with ⟨hcs, _⟩ | ⟨x, l, c, zs, hcs, _, hl, hm, hz, _, hcell, hwz⟩
 ·
  exact ⟨_, [], hcs, zFf w⟩
 obtain ⟨r, _, hr⟩ := zDq (w := w) (a := some x) (len := l) (cap := c) (zs := zs) (.inr ⟨_, rfl, hl, hm, by simpa using hz, hcell, hwz⟩);exact ⟨_, r, hcs, hr⟩
theorem zGa {fuel : Nat} {cs : List Value} {x : DataW H × List MemPlace} (h : DataW.trod enc Tryz.prog w 0 (fun _ => true) true fuel 56 cs = some x) : ∃ y : Nd × Value, cs = vh y ∧ y.1.Wf ∧ RdB w y.2 y.1.data := by
 obtain ⟨f0, f1, f2, f3, hs, ⟨o0, o1, o2, o3⟩, t0, t1, t2, t3⟩ := zJz;obtain ⟨xs, n, _, _, hlen, hxl, hf⟩ := DataW.trod_struct hs h;rw [zEM] at hlen;have hx : xs.length = 4 := by simpa using hxl
 have g : ∀ j (hj : j < 4), xs[j]? = some (xs[j]'(by omega)) := fun j hj => List.getElem?_eq_getElem (by omega)
 have h0 := (hf 0 f0 rfl).trans (g 0 (by omega));have h1 := (hf 1 f1 rfl).trans (g 1 (by omega));have h2 := (hf 2 f2 rfl).trans (g 2 (by omega));have h3 := (hf 3 f3 rfl).trans (g 3 (by omega));rw [t0, o0, zAA] at h0;rw [t1, o1, kt] at h1;rw [t2, o2, zCf] at h2;rw [t3, o3, t7] at h3;obtain ⟨k, e0, _, w0⟩ := DataW.trod_int Tryz.underlying24 h0;obtain ⟨c, e1, _, w1⟩ := DataW.trod_int Tryz.underlying47 h1;obtain ⟨d, e2, _⟩ := DataW.trod_bool Tryz.underlying4 h2;obtain ⟨v, l, e3, hr⟩ := zAU h3;have d0 := wR e0;have d1 := wR e1;have d2 := wR e2;have d3 := wR e3;have b0 := tu w0;have b1 := tx w1;obtain ⟨k, rfl⟩ := Int.eq_ofNat_of_zero_le b0.1;obtain ⟨c, rfl⟩ := Int.eq_ofNat_of_zero_le b1.1;refine ⟨(⟨k, c, d, l⟩, v), ?_, show k < 18446744073709551616 ∧ c < 4294967296 by omega, hr⟩
 match cs, hlen, d0, d1, d2, d3 with
 | [a, b, c', d], _, d0, d1, d2, d3 =>
  simp at d0 d1 d2 d3;subst d0 d1 d2 d3
  rfl
theorem zFK {a : Option Addr} {n cap : Nat} {d : DataW H} {p : List MemPlace} (h : DataW.Trod enc Tryz.prog w 0 (fun _ => true) true 23 (.slice a n cap) d p) :
  ∃ l : List (Nd × Value), RdN w (.slice a n cap) l ∧ ∀ x ∈ l, x.1.Wf := by
 obtain ⟨fuel, hf⟩ := h;rcases open_slice Tryz.underlying23 hf with ⟨hcs, _⟩ | ⟨x, len, cap', m, k, D, Pl, hcs, _, hl, hm, hmm, _, hx⟩
 ·
  simp [Value.cells] at hcs;obtain ⟨rfl, rfl, rfl⟩ := hcs;exact ⟨[], zHx w, fun e he => by cases he⟩
 simp [Value.cells] at hcs;obtain ⟨rfl, rfl, rfl⟩ := hcs;simp only [if_true] at hmm;subst hmm;rw [zEM] at hx
 haveI : Inhabited (Nd × Value) := ⟨(nd0, .slice none 0 0)⟩
 have each : ∀ i, i < n → ∃ y : Nd × Value, (∀ j, j < 4 → w.cell? (x.add (i * 4 + j)) = (vh y)[j]?) ∧ y.1.Wf ∧ RdB w y.2 y.1.data := fun i hi => by
  obtain ⟨cs', h1, h2⟩ := hx i (by omega);obtain ⟨y, rfl, hy⟩ := zGa h2;obtain ⟨_, _, hc⟩ := World.cells?_some h1;exact ⟨y, fun j hj => by rw [← hc j hj, Go.Deep.add_add], hy⟩
 obtain ⟨E, hE⟩ := choose_lt each;refine ⟨(List.range n).map E, ⟨?_, fun e he => ?_⟩, fun e he => ?_⟩
 ·
  rw [List.length_map, List.length_range];refine ⟨by rw [wT]; simp, some x, m, by simp, by simpa using hl, hm, fun h => by simp at h, fun hp => ?_⟩;have hn : 0 < n := by
   rw [wT] at hp; simp at hp; omega
  obtain ⟨b, off, spot⟩ := x;have hspot : spot = none := by
   have h0 : w.cell? ((⟨b, off, spot⟩ : Addr).add (0 * 4 + 0)) = some (.int .u64 ((E 0).1.key : Int)) := ((hE 0 hn).1 0 (by omega)).trans rfl
   simpa [Addr.add] using World.cell?_spot h0
  subst hspot;refine ⟨b, off, rfl, fun j u hj => ?_⟩;have hjl : j < n * 4 := by
   have := (List.getElem?_eq_some_iff.1 hj).1;rw [wT] at this
   simpa using this
  have hat := ua 4 vh (nd0, .slice none 0 0) ((List.range n).map E) (fun _ _ => rfl) (j / 4) (j % 4) (by simp; omega) (by omega);rw [show j / 4 * 4 + j % 4 = j by omega] at hat;have hg : ((List.range n).map E).getD (j / 4) (nd0, .slice none 0 0) = E (j / 4) := by
   rw [List.getD_eq_getElem?_getD, List.getElem?_map, List.getElem?_range (by omega)]; rfl
  rw [hg] at hat;have hc := (hE (j / 4) (by omega)).1 (j % 4) (by omega);rw [show j / 4 * 4 + j % 4 = j by omega, yJ] at hc;rw [hc, ← hat]; exact hj
 ·
  obtain ⟨i, hi, rfl⟩ := List.mem_map.1 he;exact (hE i (List.mem_range.1 hi)).2.2
 obtain ⟨i, hi, rfl⟩ := List.mem_map.1 he;exact (hE i (List.mem_range.1 hi)).2.1
end
theorem uM : Tryz.prog.cellsOf 3 = 1 := by kernel_rfl
section
variable {H : Type} {enc : TypeId × Value → H} {w : World}
end
end Go.Proofs.YtcgfilmmokmdjaaGreat
namespace Go.Proofs.YtcgfilmmokmdjaaGreat
open Go.RowKit Go.ChangeShapes Go.WideShapes Go.Deep
theorem zBn {H : Type} {enc : TypeId × Value → H} {w : World} {α : Type} (z : α) {t e : TypeId} {sz : Nat} (f : α → List Value) (Q : α → Prop) (hu : Tryz.prog.underlying t = some (.slice e)) (hc : Tryz.prog.cellsOf e = sz) (hf : ∀ x, (f x).length = sz) (hz : 0 < sz)
  (one : ∀ fuel cs x, DataW.trod enc Tryz.prog w 0 (fun _ => true) true fuel e cs = some x → ∃ y, cs = f y ∧ Q y)
  {a : Option Addr} {n cap : Nat} {d : DataW H} {p : List MemPlace} (h : DataW.Trod enc Tryz.prog w 0 (fun _ => true) true t (.slice a n cap) d p) :
  ∃ l : List α, RdS sz f w (.slice a n cap) l ∧ ∀ x ∈ l, Q x := by
 obtain ⟨fuel, hfu⟩ := h;rcases open_slice hu hfu with ⟨hcs, _⟩ | ⟨x, len, cap', m, k, D, Pl, hcs, _, hl, hm, hmm, _, hx⟩
 ·
  simp [Value.cells] at hcs;obtain ⟨rfl, rfl, rfl⟩ := hcs;exact ⟨[], RdS.nil sz f w, fun e he => by cases he⟩
 simp [Value.cells] at hcs;obtain ⟨rfl, rfl, rfl⟩ := hcs;simp only [if_true] at hmm;subst hmm;rw [hc] at hx
 haveI : Inhabited α := ⟨z⟩
 have each : ∀ i, i < n → ∃ y : α, (∀ j, j < sz → w.cell? (x.add (i * sz + j)) = (f y)[j]?) ∧ Q y := fun i hi => by
  obtain ⟨cs', h1, h2⟩ := hx i (by omega);obtain ⟨y, rfl, hy⟩ := one _ _ _ h2;obtain ⟨_, _, hc⟩ := World.cells?_some h1;exact ⟨y, fun j hj => by rw [← hc j hj, Go.Deep.add_add], hy⟩
 obtain ⟨E, hE⟩ := choose_lt each;have hfl := yK sz f ((List.range n).map E) (fun x _ => hf x);refine ⟨(List.range n).map E, ⟨fun x _ => hf x, ?_⟩, fun e he => ?_⟩
 ·
  rw [List.length_map, List.length_range];rw [List.length_map, List.length_range] at hfl;refine ⟨hfl, some x, m, by simp, by simpa using hl, hm, fun h => by simp at h, fun hp => ?_⟩;have hn : 0 < n := by
   rw [hfl] at hp; exact Nat.pos_of_mul_pos_right hp
  obtain ⟨b, off, spot⟩ := x;have hspot : spot = none := by
   have h0 := (hE 0 hn).1 0 hz;rw [List.getElem?_eq_getElem (by rw [hf]; exact hz)] at h0
   simpa [Addr.add] using World.cell?_spot h0
  subst hspot;refine ⟨b, off, rfl, fun j u hj => ?_⟩;have hjl : j < n * sz := by
   have := (List.getElem?_eq_some_iff.1 hj).1;rw [hfl] at this;exact this
  have hjd : j / sz < n := (Nat.div_lt_iff_lt_mul hz).2 hjl;have hjm : j % sz < sz := Nat.mod_lt _ hz;have hat := ua sz f z ((List.range n).map E) (fun x _ => hf x) (j / sz) (j % sz) (by simpa using hjd) hjm;have hjj : j / sz * sz + j % sz = j := by rw [Nat.mul_comm]; exact Nat.div_add_mod j sz
  rw [hjj] at hat;have hg : ((List.range n).map E).getD (j / sz) z = E (j / sz) := by
   rw [List.getD_eq_getElem?_getD, List.getElem?_map, List.getElem?_range hjd]; rfl
  rw [hg] at hat;have hc := (hE (j / sz) hjd).1 (j % sz) hjm;rw [hjj, yJ] at hc;rw [hc, ← hat]; exact hj
 obtain ⟨i, hi, rfl⟩ := List.mem_map.1 he;exact (hE i (List.mem_range.1 hi)).2
end Go.Proofs.YtcgfilmmokmdjaaGreat
namespace Go.Proofs.YtcgfilmmokmdjaaGreat
open Go.RowKit Go.ChangeShapes Go.WideShapes Go.Deep
theorem zBa : Tryz.prog.cellsOf 23 = 1 := by kernel_rfl
theorem zCH : Tryz.prog.cellsOf 87 = 1 := by kernel_rfl
structure SlQ where
 id : Int
 lim : Int
 ro : Bool
 a : Option Addr
 n : Nat
 c : Nat
 L : List GP
section
variable {H : Type} {enc : TypeId × Value → H} {w : World}
theorem zED {fuel : Nat} {cs : List Value} {x : DataW H × List MemPlace} (h : DataW.trod enc Tryz.prog w 0 (fun _ => true) true fuel 23 cs = some x) : ∃ (v : Value) (l : List (Nd × Value)), cs = [v] ∧ RdN w v l ∧ ∀ x ∈ l, x.1.Wf := by
 have key : ∀ a n c, cs = [.slice a n c] → ∃ (v : Value) (l : List (Nd × Value)), cs = [v] ∧ RdN w v l ∧ ∀ x ∈ l, x.1.Wf := fun a n c e => by
  subst e;obtain ⟨l, h1, h2⟩ := zFK (a := a) (n := n) (cap := c) (d := x.1) (p := x.2) ⟨fuel, h⟩;exact ⟨_, l, rfl, h1, h2⟩
 rcases DataW.trod_slice Tryz.underlying23 h with ⟨e, _⟩ | ⟨a, len, cap, _, _, _, _, e, _⟩
 ·
  exact key _ _ _ e
 exact key _ _ _ e
theorem zE5 {fuel : Nat} {cs : List Value} {x : DataW H × List MemPlace} (h : DataW.trod enc Tryz.prog w 0 (fun _ => true) true fuel 87 cs = some x) : ∃ (v : Value) (l : List Int), cs = [v] ∧ RdU w v l := by
 rcases open_ints Tryz.underlying87 Tryz.underlying24 (by kernel_rfl) h with ⟨hcs, _⟩ | ⟨x, l, c, zs, hcs, _, hl, hm, hz, _, hcell, hwz⟩
 ·
  exact ⟨_, [], hcs, qZ (World.ownsRow_nil w 0 24 1)⟩
 obtain ⟨g1, g2⟩ := zDI (k := .u64) (w := w) (a := some x) (len := l) (cap := c) (zs := zs) (.inr ⟨_, rfl, hl, hm, by simpa using hz, hcell, hwz⟩);exact ⟨_, zs.take l, hcs, by unfold RdU RdL; rw [g1]; exact g2⟩
end
end Go.Proofs.YtcgfilmmokmdjaaGreat
namespace Go.Proofs.YtcgfilmmokmdjaaGreat
open Go.RowKit Go.ChangeShapes Go.WideShapes Go.Deep
theorem qT : Tryz.prog.cellsOf 141 = 4 := by kernel_rfl
theorem kw : Tryz.prog.cellsOf 63 = 5 := by kernel_rfl
theorem zEe : ∃ f0 f1 f2 f3, Tryz.prog.underlying 141 = some (.struct #[f0, f1, f2, f3]) ∧ (f0.offset = 0 ∧ f1.offset = 1 ∧ f2.offset = 2 ∧ f3.offset = 3) ∧ f0.type = 3 ∧ f1.type = 23 ∧ f2.type = 3 ∧ f3.type = 87 :=
 ⟨_, _, _, _, Tryz.underlying141, ⟨rfl, rfl, rfl, rfl⟩, rfl, rfl, rfl, rfl⟩
theorem zG2 : ∃ f0 f1 f2 f3 f4, Tryz.prog.underlying 63 = some (.struct #[f0, f1, f2, f3, f4]) ∧ (f0.offset = 0 ∧ f1.offset = 1 ∧ f2.offset = 2 ∧ f3.offset = 3 ∧ f4.offset = 4) ∧ f0.type = 2 ∧ f1.type = 3 ∧ f2.type = 24 ∧ f3.type = 47 ∧ f4.type = 54 :=
 ⟨_, _, _, _, _, Tryz.underlying63, ⟨rfl, rfl, rfl, rfl, rfl⟩, rfl, rfl, rfl, rfl, rfl⟩
section
variable {H : Type} {enc : TypeId × Value → H} {w : World}
theorem zHI {fuel : Nat} {cs : List Value} {x : DataW H × List MemPlace} (h : DataW.trod enc Tryz.prog w 0 (fun _ => true) true fuel 141 cs = some x) : ∃ y : AcP, cs = acC y ∧ RdN w y.lv y.l ∧ (∀ p ∈ y.l, p.1.Wf) ∧ RdU w y.kv y.keys := by
 obtain ⟨f0, f1, f2, f3, hs, ⟨o0, o1, o2, o3⟩, t0, t1, t2, t3⟩ := zEe;obtain ⟨xs, n, _, _, hlen, hxl, hf⟩ := DataW.trod_struct hs h;rw [qT] at hlen;have hx : xs.length = 4 := by simpa using hxl
 have g : ∀ j (hj : j < 4), xs[j]? = some (xs[j]'(by omega)) := fun j hj => List.getElem?_eq_getElem (by omega)
 have h0 := (hf 0 f0 rfl).trans (g 0 (by omega));have h1 := (hf 1 f1 rfl).trans (g 1 (by omega));have h2 := (hf 2 f2 rfl).trans (g 2 (by omega));have h3 := (hf 3 f3 rfl).trans (g 3 (by omega));rw [t0, o0, uM] at h0;rw [t1, o1, zBa] at h1;rw [t2, o2, uM] at h2;rw [t3, o3, zCH] at h3;obtain ⟨k, e0, _, w0⟩ := DataW.trod_int Tryz.underlying3 h0;obtain ⟨v, l, e1, hr, hwf⟩ := zED h1;obtain ⟨gn, e2, _, w2⟩ := DataW.trod_int Tryz.underlying3 h2;obtain ⟨kv, ks, e3, hk⟩ := zE5 h3;have d0 := wR e0;have d1 := wR e1;have d2 := wR e2;have d3 := wR e3;refine ⟨⟨k, v, l, gn, kv, ks⟩, ?_, hr, hwf, hk⟩
 match cs, hlen, d0, d1, d2, d3 with
 | [a, b, c', d], _, d0, d1, d2, d3 =>
  simp at d0 d1 d2 d3;subst d0 d1 d2 d3
  rfl
theorem open_actsB {a : Option Addr} {n cap : Nat} {d : DataW H} {p : List MemPlace} (h : DataW.Trod enc Tryz.prog w 0 (fun _ => true) true 59 (.slice a n cap) d p) : ∃ l : List AcP, RdA w (.slice a n cap) l := by
 obtain ⟨l, h1, h2⟩ := zBn zHn acC (fun y => RdN w y.lv y.l ∧ (∀ p ∈ y.l, p.1.Wf) ∧ RdU w y.kv y.keys) Tryz.underlying59 qT zKF (by decide) (fun fuel cs x h => zHI h) h;exact ⟨l, h1, h2⟩
theorem zIa {fuel : Nat} {cs : List Value} {x : DataW H × List MemPlace} (h : DataW.trod enc Tryz.prog w 0 (fun _ => true) true fuel 63 cs = some x) : ∃ y : Rq × Value, cs = rqC y ∧ RdB w y.2 y.1.data ∧ y.1.Wf := by
 obtain ⟨f0, f1, f2, f3, f4, hs, ⟨o0, o1, o2, o3, o4⟩, t0, t1, t2, t3, t4⟩ := zG2;obtain ⟨xs, n, _, _, hlen, hxl, hf⟩ := DataW.trod_struct hs h;rw [kw] at hlen;have hx : xs.length = 5 := by simpa using hxl
 have g : ∀ j (hj : j < 5), xs[j]? = some (xs[j]'(by omega)) := fun j hj => List.getElem?_eq_getElem (by omega)
 have h0 := (hf 0 f0 rfl).trans (g 0 (by omega));have h1 := (hf 1 f1 rfl).trans (g 1 (by omega));have h2 := (hf 2 f2 rfl).trans (g 2 (by omega));have h3 := (hf 3 f3 rfl).trans (g 3 (by omega));have h4 := (hf 4 f4 rfl).trans (g 4 (by omega));rw [t0, o0, zEH] at h0;rw [t1, o1, uM] at h1;rw [t2, o2, zAA] at h2;rw [t3, o3, kt] at h3;rw [t4, o4, t7] at h4;obtain ⟨tk, e0, _, _⟩ := DataW.trod_int Tryz.underlying2 h0;obtain ⟨kd, e1, _, _⟩ := DataW.trod_int Tryz.underlying3 h1;obtain ⟨k, e2, _, w2⟩ := DataW.trod_int Tryz.underlying24 h2;obtain ⟨c, e3, _, w3⟩ := DataW.trod_int Tryz.underlying47 h3;obtain ⟨v, l, e4, hr⟩ := zAU h4;have d0 := wR e0;have d1 := wR e1;have d2 := wR e2;have d3 := wR e3;have d4 := wR e4;have b2 := tu w2;have b3 := tx w3;obtain ⟨k, rfl⟩ := Int.eq_ofNat_of_zero_le b2.1;obtain ⟨c, rfl⟩ := Int.eq_ofNat_of_zero_le b3.1
 refine ⟨(⟨tk, kd, k, c, l⟩, v), ?_, hr, show k < 18446744073709551616 ∧ c < 4294967296 by omega⟩
 match cs, hlen, d0, d1, d2, d3, d4 with
 | [a, b, c', d, e'], _, d0, d1, d2, d3, d4 =>
  simp at d0 d1 d2 d3 d4;subst d0 d1 d2 d3 d4
  rfl
theorem open_reqs {a : Option Addr} {n cap : Nat} {d : DataW H} {p : List MemPlace} (h : DataW.Trod enc Tryz.prog w 0 (fun _ => true) true 60 (.slice a n cap) d p) : ∃ l : List (Rq × Value), RdQ w (.slice a n cap) l ∧ ∀ p ∈ l, p.1.Wf := by
 obtain ⟨l, h1, h2⟩ := zBn (rq0, .slice none 0 0) rqC (fun y => RdB w y.2 y.1.data ∧ y.1.Wf) Tryz.underlying60 kw tE (by decide) (fun fuel cs x h => zIa h) h;exact ⟨l, ⟨h1, fun p hp => (h2 p hp).1⟩, fun p hp => (h2 p hp).2⟩
end
end Go.Proofs.YtcgfilmmokmdjaaGreat
namespace Go.Proofs.YtcgfilmmokmdjaaGreat
open Go.RowKit
theorem limits_open (a : Option Addr) (n cap : Nat) (b : Option Addr) (m cap2 : Nat) (w : World) (h1 : ∃ l : List AcP, RdA w (.slice a n cap) l) (h2 : ∃ l : List (Rq × Value), RdQ w (.slice b m cap2) l ∧ ∀ p ∈ l, p.1.Wf) :
  Calls Tryz.prog 7 #[.slice a n cap, .slice b m cap2] w fun e w' => e = .returned (.bool true) ∧ Below w.heap.size w w' := by
 obtain ⟨ac, ha⟩ := h1;obtain ⟨qs, hq, _⟩ := h2;exact zDc _ _ ac qs w ha hq
end Go.Proofs.YtcgfilmmokmdjaaGreat
