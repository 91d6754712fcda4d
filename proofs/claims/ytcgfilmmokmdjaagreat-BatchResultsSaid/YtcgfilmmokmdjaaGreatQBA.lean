/- A part of the walk. -/
import Derived.Test.YtcgfilmmokmdjaaGreatBah
import Derived.Test.YtcgfilmmokmdjaaGreatQAZ
set_option linter.all false
namespace Go.Proofs.YtcgfilmmokmdjaaGreat
open Go.RowKit Go.ChangeShapes Go.WideShapes Go.Deep
theorem kC : Tryz.prog.cellsOf 141 = 4 := by kernel_rfl
theorem zAW : Tryz.prog.cellsOf 63 = 5 := by kernel_rfl
theorem zE9 : ∃ f0 f1 f2 f3, Tryz.prog.underlying 141 = some (.struct #[f0, f1, f2, f3]) ∧ (f0.offset = 0 ∧ f1.offset = 1 ∧ f2.offset = 2 ∧ f3.offset = 3) ∧ f0.type = 3 ∧ f1.type = 23 ∧ f2.type = 3 ∧ f3.type = 87 :=
 ⟨_, _, _, _, Tryz.underlying141, ⟨rfl, rfl, rfl, rfl⟩, rfl, rfl, rfl, rfl⟩
theorem zHc : ∃ f0 f1 f2 f3 f4, Tryz.prog.underlying 63 = some (.struct #[f0, f1, f2, f3, f4]) ∧ (f0.offset = 0 ∧ f1.offset = 1 ∧ f2.offset = 2 ∧ f3.offset = 3 ∧ f4.offset = 4) ∧ f0.type = 2 ∧ f1.type = 3 ∧ f2.type = 24 ∧ f3.type = 47 ∧ f4.type = 54 :=
 ⟨_, _, _, _, _, Tryz.underlying63, ⟨rfl, rfl, rfl, rfl, rfl⟩, rfl, rfl, rfl, rfl, rfl⟩
section
variable {H : Type} {enc : TypeId × Value → H} {w : World}
theorem zHp {fuel : Nat} {cs : List Value} {x : DataW H × List MemPlace} (h : DataW.trod enc Tryz.prog w 0 (fun _ => true) true fuel 141 cs = some x) : ∃ y : nG, cs = NW y ∧ mL w y.lv y.l ∧ (∀ p ∈ y.l, p.1.Wf) ∧ lX w y.kv y.keys := by
 obtain ⟨f0, f1, f2, f3, hs, ⟨o0, o1, o2, o3⟩, t0, t1, t2, t3⟩ := zE9;obtain ⟨xs, n, _, _, hlen, hxl, hf⟩ := DataW.trod_struct hs h;rw [kC] at hlen;have hx : xs.length = 4 := by simpa using hxl
 have g : ∀ j (hj : j < 4), xs[j]? = some (xs[j]'(by omega)) := fun j hj => aB (by omega)
 have h0 := (hf 0 f0 rfl).trans (g 0 (by omega));have h1 := (hf 1 f1 rfl).trans (g 1 (by omega));have h2 := (hf 2 f2 rfl).trans (g 2 (by omega));have h3 := (hf 3 f3 rfl).trans (g 3 (by omega));rw [t0, o0, ud] at h0;rw [t1, o1, zB9] at h1;rw [t2, o2, ud] at h2;rw [t3, o3, zCr] at h3;obtain ⟨k, e0, _, w0⟩ := DataW.trod_int Tryz.underlying3 h0;obtain ⟨v, l, e1, hr, hwf⟩ := zEg h1;obtain ⟨gn, e2, _, w2⟩ := DataW.trod_int Tryz.underlying3 h2;obtain ⟨kv, ks, e3, hk⟩ := zFe h3;have d0 := we e0;have d1 := we e1;have d2 := we e2;have d3 := we e3;refine ⟨⟨k, v, l, gn, kv, ks⟩, ?_, hr, hwf, hk⟩
 match cs, hlen, d0, d1, d2, d3 with
 | [a, b, c', d], _, d0, d1, d2, d3 =>
  simp at d0 d1 d2 d3;subst d0 d1 d2 d3
  rfl
theorem open_actsB {a : Option Addr} {n cap : Nat} {d : DataW H} {p : List MemPlace} (h : DataW.Trod enc Tryz.prog w 0 (fun _ => true) true 59 (.slice a n cap) d p) : ∃ l : List nG, Dm w (.slice a n cap) l := by
 obtain ⟨l, h1, h2⟩ := zCK Lk NW (fun y => mL w y.lv y.l ∧ (∀ p ∈ y.l, p.1.Wf) ∧ lX w y.kv y.keys) Tryz.underlying59 kC zKn (by decide) (fun fuel cs x h => zHp h) h;exact ⟨l, h1, h2⟩
theorem zJA {fuel : Nat} {cs : List Value} {x : DataW H × List MemPlace} (h : DataW.trod enc Tryz.prog w 0 (fun _ => true) true fuel 63 cs = some x) : ∃ y : Rq × Value, cs = ny y ∧ oH w y.2 y.1.data ∧ y.1.Wf := by
 obtain ⟨f0, f1, f2, f3, f4, hs, ⟨o0, o1, o2, o3, o4⟩, t0, t1, t2, t3, t4⟩ := zHc;obtain ⟨xs, n, _, _, hlen, hxl, hf⟩ := DataW.trod_struct hs h;rw [zAW] at hlen;have hx : xs.length = 5 := by simpa using hxl
 have g : ∀ j (hj : j < 5), xs[j]? = some (xs[j]'(by omega)) := fun j hj => aB (by omega)
 have h0 := (hf 0 f0 rfl).trans (g 0 (by omega));have h1 := (hf 1 f1 rfl).trans (g 1 (by omega));have h2 := (hf 2 f2 rfl).trans (g 2 (by omega));have h3 := (hf 3 f3 rfl).trans (g 3 (by omega));have h4 := (hf 4 f4 rfl).trans (g 4 (by omega));rw [t0, o0, zEm] at h0;rw [t1, o1, ud] at h1;rw [t2, o2, zAd] at h2;rw [t3, o3, zAV] at h3;rw [t4, o4, qX] at h4;obtain ⟨tk, e0, _, _⟩ := DataW.trod_int Tryz.underlying2 h0;obtain ⟨kd, e1, _, _⟩ := DataW.trod_int Tryz.underlying3 h1;obtain ⟨k, e2, _, w2⟩ := DataW.trod_int Tryz.underlying24 h2;obtain ⟨c, e3, _, w3⟩ := DataW.trod_int Tryz.underlying47 h3;obtain ⟨v, l, e4, hr⟩ := zAw h4;have d0 := we e0;have d1 := we e1;have d2 := we e2;have d3 := we e3;have d4 := we e4;have b2 := qS w2;have b3 := qV w3;obtain ⟨k, rfl⟩ := dQ b2.1;obtain ⟨c, rfl⟩ := dQ b3.1;refine ⟨(⟨tk, kd, k, c, l⟩, v), ?_, hr, show k < 18446744073709551616 ∧ c < 4294967296 by omega⟩
 match cs, hlen, d0, d1, d2, d3, d4 with
 | [a, b, c', d, e'], _, d0, d1, d2, d3, d4 =>
  simp at d0 d1 d2 d3 d4;subst d0 d1 d2 d3 d4
  rfl
theorem open_reqs {a : Option Addr} {n cap : Nat} {d : DataW H} {p : List MemPlace} (h : DataW.Trod enc Tryz.prog w 0 (fun _ => true) true 60 (.slice a n cap) d p) : ∃ l : List (Rq × Value), oC w (.slice a n cap) l ∧ ∀ p ∈ l, p.1.Wf := by
 obtain ⟨l, h1, h2⟩ := zCK (JC, .slice none 0 0) ny (fun y => oH w y.2 y.1.data ∧ y.1.Wf) Tryz.underlying60 zAW vC (by decide) (fun fuel cs x h => zJA h) h;exact ⟨l, ⟨h1, fun p hp => (h2 p hp).1⟩, fun p hp => (h2 p hp).2⟩
end
end Go.Proofs.YtcgfilmmokmdjaaGreat
namespace Go.Proofs.YtcgfilmmokmdjaaGreat
open Go.RowKit
theorem results_open (a : Option Addr) (n cap : Nat) (b : Option Addr) (m Io : Nat) (w : World) (h1 : ∃ l : List nG, Dm w (.slice a n cap) l) (h2 : ∃ l : List (Rq × Value), oC w (.slice b m Io) l ∧ ∀ p ∈ l, p.1.Wf) :
  Calls Tryz.prog 6 #[.slice a n cap, .slice b m Io] w fun e w' => e = .returned (.bool true) ∧ Below w.heap.size w w' := by
 obtain ⟨ac, ha⟩ := h1;obtain ⟨qs, hq, _⟩ := h2;exact zDU _ _ ac qs w ha hq
end Go.Proofs.YtcgfilmmokmdjaaGreat
