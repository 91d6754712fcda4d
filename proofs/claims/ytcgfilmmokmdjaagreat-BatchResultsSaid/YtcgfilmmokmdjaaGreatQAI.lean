/- A part of the walk. -/
import Derived.Test.YtcgfilmmokmdjaaGreatGv
import Derived.Test.YtcgfilmmokmdjaaGreatQAD
import Derived.Test.YtcgfilmmokmdjaaGreatQAH
import Derived.Test.YtcgfilmmokmdjaaGreatQAA
import Derived.Deep.Cut
import Derived.RegionTactic
import Derived.Deep.RegionLaw
import Derived.Test.YtcgfilmmokmdjaaGreatQAF
set_option linter.all false
set_option maxRecDepth 100000
set_option maxHeartbeats 32000000
namespace Go.Proofs.YtcgfilmmokmdjaaGreat
open Go.RowKit
def fresh (num : Int) : Gn := ⟨num, 0, 1, 16, fun _ => [], 0, 0⟩
theorem kA (w : World) : fw w Sl.nil (fun _ => []) := fun _ _ => iy.nil 4 gZ w
theorem k9 (num : Int) : yw (fresh num).m = true := by
 rw [zV];exact ⟨fun _ _ => rfl, fun _ _ x hx => (by cases hx), rfl, cT _, by show (0 : Int) ≤ 1099511627776; decide⟩
theorem k6 (num : Int) : ja (fresh num) ↔ 1 ≤ num ∧ num ≤ 8 := by
 constructor
 ·
  intro h; exact h.num
 intro h;refine ⟨h, ⟨cT _, by show (0 : Int) ≤ _; decide⟩, ?_, ?_, k9 num, rfl, rfl⟩
 ·
  show (1 : Int) ≤ 1 ∧ (1 : Int) ≤ 3; decide
 show (16 : Int) ≤ 16 ∧ (16 : Int) ≤ 1048576 ∧ (16 : Int) % 8 = 0; decide
theorem Wu (num : Int) (hn : 1 ≤ num ∧ num ≤ 8) (w : World) : Calls Tryz.prog 60 #[.int .i64 num] w fun e w' => e = .returned (.tuple #[za num 0 1 16 Sl.nil 0 0, .int .i64 0]) ∧ Below w.heap.size w w' := by
 have HV := zh (fun W => vW (fresh num) Sl.nil W (kA W) (fun _ _ => au _));rw [(yD _).2 ((k6 num).2 hn)] at HV;dsimp only [fresh] at HV;have HN := zh (fun W => zKH W);have HB := zh (zQ w 0 0 0 0 Sl.nil 0 0 38);have HR := zh (eA.new w 0 0 0 0 Sl.nil 0 0 38);clear hn;generalize hnil : Sl.nil = s0 at *;have Da := zh hnil;clear hnil
 go_enter Tryz.func60, Tryz.ntmps60
 go_wp2_with fail;refine (HN.out _).mono ?_;rintro e w1 ⟨rfl, hb1⟩;obtain ⟨W0, hW0⟩ : ∃ W0, w.alloc (.cells (zW 0 0 0 0 s0 0 0) 38) = W0 := ⟨_, rfl⟩
 have mF : Below (w.alloc (.cells (zW 0 0 0 0 s0 0 0) 38)).heap.size (w.alloc (.cells (zW 0 0 0 0 s0 0 0) 38)) w1 := by
  rw [← Da.out]; exact hb1
 rw [hW0] at mF HB HR;have eQ := zh (zA HB.out mF);have eY := zh (HR.out.below mF);clear hb1 mF HB HR hW0;have G0 := eY.out.lt;generalize hb0 : w.heap.size = b0 at *;have E0 := zh hb0;clear hb0;go_upto_region 2 with fail;obtain ⟨W, hW⟩ : ∃ W, w1.alloc (.cells (zW num 0 1 16 s0 0 0) 38) = W := ⟨_, rfl⟩
 have HX := zh (eA.new w1 num 0 1 16 s0 0 0 38);have eE := zh (zQ w1 num 0 1 16 s0 0 0 38);change Code.wp _ _ _ _ (w1.alloc (.cells (zW num 0 1 16 s0 0 0) 38));rw [hW] at HX eE ⊢;clear hW;have fZ := zh (eY.out.below eE.out);have eP := zh (iP eQ.out (bM G0) eE.out);have G1 := HX.out.lt;obtain ⟨m0, m1, m2, m3, m4, m5, m6, m7, m8, m9, m10, m11, m12, m13⟩ := HX.out.q;go_wp2_with fail;refine (HV.out _).mono ?_;rintro e w2 ⟨rfl, hb2⟩;clear m0 m1 m2 m3 m4 m5 m6 m7 m8 m9 m10 m11 m12 m13;have gO := zh (HX.out.below hb2);have mh := zh (fZ.out.below hb2);have fV := zh (iP eP.out (bM fZ.out.lt) hb2);have adX := mh.out.lt;have adY := gO.out.lt;have hne : b0 ≠ w1.heap.size := by omega
 clear hb2 HX fZ eP HV HN eY eQ eE G1;generalize w1.heap.size = b1 at *;obtain ⟨m0, m1, m2, m3, m4, m5, m6, m7, m8, m9, m10, m11, m12, m13⟩ := gO.out.q;obtain ⟨d0, d1, d2, d3, d4, d5, d6, d7, d8, d9, d10, d11, d12, d13⟩ := mh.out.q;have F := mh.out.f;go_wp2_with fail;change bodyPost _ _ _ _ _ (pts w2 b0 (zL num 0 1 16 s0 0 0));have hby := mh.out.all num 0 1 16 s0 0 0;have ek := zh (zD (B := b0) (ai _) (zL num 0 1 16 s0 0 0) fV.out);generalize pts w2 b0 (zL num 0 1 16 s0 0 0) = V at *;exact aw (v := .tuple #[za num 0 1 16 s0 0 0, .int .i64 0]) (by simp [results, Tryz.results60, go_sem, hby.q]) rfl ⟨rfl, by rw [E0.out]; exact ek.out⟩
end Go.Proofs.YtcgfilmmokmdjaaGreat
namespace Go.Proofs.YtcgfilmmokmdjaaGreat
instance : Inhabited Mp := ⟨⟨fun _ => [], 0, 0⟩⟩
def fW : Gn := ⟨0, 0, 0, 0, default⟩
instance : Inhabited Gn := ⟨fW⟩
def eN (l : List Gn) (i : Nat) : Gn := l.getD i fW
structure eL where
 id : Int
 lim : Int
 ro : Bool
 dU : List Gn
def Bg (s : eL) (i : Nat) : Prop :=
 wB (eN s.dU i) = true ∧ (0 < i → (eN s.dU (i - 1)).num < (eN s.dU i).num) ∧ ((eN s.dU i).mode = 1 ↔ i + 1 = s.dU.length) ∧ (eN s.dU i).size ≤ 2 * s.lim
structure eo (s : eL) : Prop where
 id : 0 ≤ s.id ∧ s.id < 4
 lim : 4136 ≤ s.lim ∧ s.lim ≤ 262144
 len : 1 ≤ s.dU.length ∧ s.dU.length ≤ 8
 g : ∀ i, i < s.dU.length → Bg s i
 top : (eN s.dU (s.dU.length - 1)).size + (((zI (eN s.dU (s.dU.length - 1)).m).length * 24 : Nat) : Int) ≤ 2 * s.lim
open Classical in
noncomputable def zg (s : eL) : Bool := decide (eo s)
theorem zR (s : eL) : zg s = true ↔ eo s := by unfold zg; simp
theorem qM {s : eL} (h : ¬ eo s) : zg s = false := by unfold zg; simp [h]
theorem eo.vg {s : eL} (h : eo s) {i : Nat} (hi : i < s.dU.length) : ja (eN s.dU i) := (yD _).1 (h.g i hi).1
theorem Wv {s : eL} {i : Nat} (hi : i < s.dU.length) (h : ¬ Bg s i) : zg s = false := qM fun hv => h (hv.g i hi)
structure jT where
 gen : Int
 mode : Int
 rev : Int
 it : It
 at_ : Nat
def xu (l : List Gn) (key : Int) : Nat → List jT
 | 0 => []
 | n + 1 => (match ze (eN l n).m key with | some x => [⟨(eN l n).num, (eN l n).mode, (eN l n).rev, x, n⟩] | none => []) ++ xu l key n
noncomputable def yM (s : eL) (key : Int) : List jT := if zg s = true then xu s.dU key s.dU.length else []
end Go.Proofs.YtcgfilmmokmdjaaGreat
namespace Go.Proofs.YtcgfilmmokmdjaaGreat
open Go.RowKit
def Bh (g : Gn) (x : Nd) : It := ⟨(x.key : Int), (x.ck : Int), g.size, (x.data.length : Int)⟩
def yT (g : Gn) (x : Nd) : Gn := { g with m := if x.del then xA (yJ g.m x.key) (eM x.data.length : Nat) else wQ g.m (Bh g x), size := g.size + (eM x.data.length : Nat) }
def zb (g : Gn) (l : List Nd) : Gn := l.foldl yT g
def ic (l : List Nd) : Nat := (l.map fun x => eM x.data.length).sum
instance (x : Nd) : Decidable x.ok := by unfold Nd.ok; infer_instance
def D8 (l : List Nd) : Bool := l.all fun x => decide x.ok
def yt (g : Gn) (l : List Nd) : Int × Gn := if wB g = true ∧ D8 l = true then (if g.mode = 1 then (if g.size + (ic l : Int) ≤ 1048576 then (0, zb g l) else (9, fW)) else (12, fW)) else (1, fW)
def ye (g : Gn) (l : List Int) : Int × Gn := if wB g = true then (if g.mode = 1 then (12, fW) else (0, { g with m := l.foldl yJ g.m })) else (1, fW)
def xK (g : Gn) (fA : Int) : Int × Gn := if wB g = true then (if g.mode = fA then (0, { g with mode := fA + 1 }) else (12, fW)) else (1, fW)
def G4 (w0 : World) (p : Int × Gn) (e : Ending) (w' : World) : Prop := (∃ s, e = .returned (.tuple #[za p.2.num p.2.rev p.2.mode p.2.size s p.2.m.live p.2.m.dW, .int .i64 p.1]) ∧ eU w' w0.heap.size s p.2.m.st) ∧ Below w0.heap.size w0 w'
theorem vj (M : Mp) : xA M 0 = M := by
 unfold xA
 split
 ·
  rw [Int.add_zero]
 rfl
theorem Ww : ic [] = 0 := rfl
theorem wu (x : Nd) (l : List Nd) : ic (x :: l) = eM x.data.length + ic l := by simp [ic]
theorem tY (g : Gn) (l : List Nd) (x : Nd) : zb g (l ++ [x]) = yT (zb g l) x := by simp [zb]
theorem kY (l : List Nd) (x : Nd) : ic (l ++ [x]) = ic l + eM x.data.length := by simp [ic]
theorem uA (g : Gn) (x : Nd) : (yT g x).size = g.size + (eM x.data.length : Nat) := rfl
theorem wP (g : Gn) : ∀ l, (zb g l).size = g.size + (ic l : Nat)
 | [] => by simp [zb, ic]
 | x :: r => by
  have := wP (yT g x) r;rw [uA] at this
  show (zb (yT g x) r).size = _
  rw [this, wu]; omega
theorem Wx (g : Gn) (x : Nd) : (yT g x).num = g.num ∧ (yT g x).rev = g.rev ∧ (yT g x).mode = g.mode := ⟨rfl, rfl, rfl⟩
theorem uc : ∀ (l : List Nd) (g : Gn), (zb g l).num = g.num ∧ (zb g l).rev = g.rev ∧ (zb g l).mode = g.mode
 | [], _ => ⟨rfl, rfl, rfl⟩
 | x :: r, g => by
  have := uc r (yT g x);exact this
theorem zHf (M : Mp) (x : It) {n : Nat} (h : ∀ i, i < 8 → (M.st i).length ≤ n) : ∀ i, i < 8 → ((wQ M x).st i).length ≤ n + 1 := fun i hi => by
 unfold wQ
 split
 ·
  show (if i = fl x.key then ins (M.st i) x else M.st i).length ≤ n + 1
  have h1 := vQ x (M.st i);have h2 := h i hi
  split <;> omega
 have h2 := h i hi; omega
theorem qD (M : Mp) (k : Int) {n : Nat} (h : ∀ i, i < 8 → (M.st i).length ≤ n) : ∀ i, i < 8 → ((yJ M k).st i).length ≤ n := fun i hi => by
 unfold yJ
 split
 ·
  exact h i hi
 split
 ·
  show (if i = fl k then gl (M.st i) k else M.st i).length ≤ n
  have h1 := uZ (M.st i) k;have h2 := h i hi
  split <;> omega
 exact h i hi
theorem uI (M : Mp) (z : Int) : (xA M z).st = M.st := by unfold xA; split <;> rfl
theorem zE6 (g : Gn) (x : Nd) {n : Nat} (h : ∀ i, i < 8 → (g.m.st i).length ≤ n) : ∀ i, i < 8 → ((yT g x).m.st i).length ≤ n + 1 := fun i hi => by
 unfold yT;dsimp only
 split
 ·
  rw [uI];exact Nat.le_succ_of_le (qD _ _ h i hi)
 exact zHf _ _ h i hi
theorem wL : ∀ (l : List Nd) (g : Gn) {n : Nat}, (∀ i, i < 8 → (g.m.st i).length ≤ n) → ∀ i, i < 8 → ((zb g l).m.st i).length ≤ n + l.length
 | [], _, _, h => h
 | x :: r, g, n, h => fun i hi => by
  have := wL r (yT g x) (zE6 g x h) i hi;rw [aX];exact ak this (by omega)
theorem wI : ∀ (l : List Int) (M : Mp) {n : Nat}, (∀ i, i < 8 → (M.st i).length ≤ n) → ∀ i, i < 8 → ((l.foldl yJ M).st i).length ≤ n
 | [], _, _, h => h
 | x :: r, M, _, h => wI r (yJ M x) (qD M x h)
abbrev QL (x : Nd) (v : Value) : Value := .agg #[.int .u64 (x.key : Int), .int .u32 (x.ck : Int), .bool x.del, v]
theorem WA (w : World) : oH w (.slice none 0 0) [] := kJ (aU w 0 5 1)
def vy (p : Nd × Value) : List Value := [.int .u64 (p.1.key : Int), .int .u32 (p.1.ck : Int), .bool p.1.del, p.2]
theorem zHh (p : Nd × Value) : (vy p).length = 4 := rfl
def wM (es : List (Nd × Value)) : List Value := es.flatMap vy
theorem wh (es : List (Nd × Value)) : (wM es).length = es.length * 4 := yS 4 vy es fun x _ => zHh x
theorem WB : xj Tryz.prog 23 56 4 40 := by
 obtain ⟨i, hi, hz, hs, hb⟩ := cn (P := Tryz.prog) (e := 56) (z := .agg #[.int .u64 0, .int .u32 0, .bool false, .slice none 0 0]) (size := 4) (bytes := 40) (by kernel_rfl);exact ⟨Tryz.underlying23, by decide, i, _, hi, hz, hs, hb, rfl⟩
structure mL (w : World) (v : Value) (es : List (Nd × Value)) : Prop where
 row : Rd w 4 v es.length (wM es)
 dat : ∀ p ∈ es, oH w p.2 p.1.data
theorem mL.below {w w' : World} {v : Value} {es : List (Nd × Value)} (h : mL w v es) (hb : Below w.heap.size w w') : mL w' v es := ⟨h.row.below hb, fun p hp => iw.below (h.dat p hp) hb⟩
def xb (es : List (Nd × Value)) (j : Nat) : Nd × Value := es.getD j (Jf, .slice none 0 0)
theorem uM {es : List (Nd × Value)} {j : Nat} (h : j < es.length) : xb es j ∈ es := by
 unfold xb; rw [ax, aB h]; exact bI h
theorem mL.shape {w : World} {v : Value} {es : List (Nd × Value)} (h : mL w v es) : ∃ a cap, v = .slice a es.length cap ∧ es.length ≤ cap ∧ cap ≤ maxLen := by
 obtain ⟨_, a, cap, h1, h2, h3, _⟩ := h.row;exact ⟨a, cap, h1, h2, h3⟩
theorem mL.at {w : World} {a : Option Addr} {n cap : Nat} {es : List (Nd × Value)} (h : mL w (.slice a n cap) es) {j : Nat} (hj : j < n) : ∃ b off, a = some ⟨b, off, none⟩ ∧ oH w (xb es j).2 (xb es j).1.data ∧
  w.cell? ⟨b, off + j * 4, none⟩ = some (.int .u64 ((xb es j).1.key : Int)) ∧ w.cell? ⟨b, off + j * 4 + 1, none⟩ = some (.int .u32 ((xb es j).1.ck : Int)) ∧
  w.cell? ⟨b, off + j * 4 + 2, none⟩ = some (.bool (xb es j).1.del) ∧ w.cell? ⟨b, off + j * 4 + 3, none⟩ = some (xb es j).2 := by
 have hn : n = es.length := by
  obtain ⟨_, _, _, e, _⟩ := h.row;injection e
 subst hn;obtain ⟨_, a', cap', e, _, _, _, hc⟩ := h.row;injection e with e1;obtain ⟨b, off, e2, hc⟩ := hc (by rw [wh]; omega);refine ⟨b, off, e1.trans e2, h.dat _ (uM hj), ?_⟩
 have hat : ∀ i, i < 4 → ∀ u, (vy (xb es j))[i]? = some u → w.cell? ⟨b, off + (j * 4 + i), none⟩ = some u := fun i hi u hu => hc (j * 4 + i) u (by
  rw [show wM es = es.flatMap vy from rfl, ux 4 vy (Jf, .slice none 0 0) es (fun _ _ => rfl) j i hj hi]; exact hu)
 exact ⟨hat 0 (by omega) _ rfl, hat 1 (by omega) _ rfl, hat 2 (by omega) _ rfl, hat 3 (by omega) _ rfl⟩
structure AK (W : World) (b : Nat) (x : Nd) (v : Value) : Prop where
 c0 : W.cell? ⟨b, 0, none⟩ = some (.int .u64 (x.key : Int))
 c1 : W.cell? ⟨b, 1, none⟩ = some (.int .u32 (x.ck : Int))
 c2 : W.cell? ⟨b, 2, none⟩ = some (.bool x.del)
 c3 : W.cell? ⟨b, 3, none⟩ = some v
 f : ∀ i, W.frozen? ⟨b, i, none⟩ = false
theorem AK.q {W : World} {b : Nat} {x : Nd} {v : Value} (h : AK W b x v) : W.cell? ⟨b, 0, none⟩ = some (.int .u64 (x.key : Int)) ∧ W.cell? ⟨b, 1, none⟩ = some (.int .u32 (x.ck : Int)) ∧ W.cell? ⟨b, 2, none⟩ = some (.bool x.del) ∧ W.cell? ⟨b, 3, none⟩ = some v := ⟨h.c0, h.c1, h.c2, h.c3⟩
abbrev KX (x : Nd) (v : Value) : Array Value := #[.int .u64 (x.key : Int), .int .u32 (x.ck : Int), .bool x.del, v]
theorem AK.new (W : World) (x : Nd) (v : Value) : AK (W.alloc (.cells (KX x v) 56)) W.heap.size x v := ⟨by simp, by simp, by simp, by simp, fun i => by simp⟩
theorem QM (w : World) (x : Nd) (v : Value) : Below w.heap.size w (w.alloc (.cells (KX x v) 56)) := (aj _ _).alloc (ai _) _
theorem zC6 (x : Nd) (a : Option Addr) (cap : Nat) (w : World) : Calls Tryz.prog 80 #[QL x (.slice a x.data.length cap)] w fun e w' => e = .returned (.bool (decide x.ok)) ∧ Below w.heap.size w w' := by
 obtain ⟨k, c, d, l⟩ := x;dsimp only;have HB := zh (show Below w.heap.size w (w.alloc (.cells #[.int .u64 (k : Int), .int .u32 (c : Int), .bool d, .slice a l.length cap] 56)) from (aj _ _).alloc (ai _) _)
 have HO := zh (show decide (Nd.ok ⟨k, c, d, l⟩) = (decide ((l.length : Int) ≤ 4096) && !(d && decide (0 < (l.length : Int)))) by
  unfold Nd.ok
  dsimp only
  have e : (l = []) ↔ ¬ 0 < l.length := by rw [← List.length_eq_zero_iff]; omega
  cases d
  ·
   simp only [Bool.false_and, Bool.not_false, Bool.and_true, reduceCtorEq, false_imp_iff, and_true]
   exact decide_eq_decide.2 (by omega)
  simp only [cG, forall_const, e]
  rw [dw, aT, aM, aT, Bool.not_eq_true', decide_eq_false_iff_not]
  omega)
 generalize decide (Nd.ok ⟨k, c, d, l⟩) = ob at *;generalize l.length = n at *
 go_enter Tryz.func80, Tryz.ntmps80
 by_cases h1 : (n : Int) ≤ 4096
 ·
  have d1 : decide ((n : Int) ≤ 4096) = true := aF h1
  cases d
  ·
   go_wp2_with fail;go_ret;exact ⟨zE (by rw [HO.out, d1]; rfl), HB.out⟩
  by_cases h2 : 0 < (n : Int)
  ·
   have d2 : decide (0 < (n : Int)) = true := aF h2;go_wp2_with fail;go_ret;have h3 : 0 < n := by omega
   exact ⟨zE (by rw [HO.out, d1, d2]; simp [h3]), HB.out⟩
  have d2 : decide (0 < (n : Int)) = false := aD h2;go_wp2_with fail;go_ret;have h3 : ¬ 0 < n := by omega
  exact ⟨zE (by rw [HO.out, d1, d2]; simp [h3]), HB.out⟩
 have d1 : decide ((n : Int) ≤ 4096) = false := aD h1;go_wp2_with fail;go_ret;exact ⟨zE (by rw [HO.out, d1]; rfl), HB.out⟩
/-! ### From -/
def uE (T : List It) (j : Nat) (i : Nat) : List It := nX i (T.take j)
theorem zH1 {T : List It} {j : Nat} (h : j < T.length) : uE T (j + 1) (fl (dX T j).key) = uE T j (fl (dX T j).key) ++ [dX T j] := by
 unfold uE nX;rw [xB h, cQ];simp
theorem zKd {T : List It} {j i : Nat} (h : j < T.length) (hi : i ≠ fl (dX T j).key) : uE T (j + 1) i = uE T j i := by
 unfold uE nX;rw [xB h, cQ];simp [aO hi]
theorem zHo {T : List It} {j : Nat} (h : j < T.length) : uE T (j + 1) = fun i => if i = fl (dX T j).key then uE T j (fl (dX T j).key) ++ [dX T j] else uE T j i := funext fun i => by
 by_cases e : i = fl (dX T j).key
 ·
  rw [ag e, e, zH1 h]
 rw [ah e, zKd h e]
theorem zJO (T : List It) (j i : Nat) : (uE T j i).length ≤ j := by
 unfold uE;exact ak (zJ7 _ _) (by rw [ay]; omega)
theorem zGn (T : List It) : uE T 0 = fun _ => [] := funext fun _ => rfl
theorem zJw (T : List It) : uE T T.length = fun i => nX i T := funext fun i => by unfold uE; rw [ct]
theorem WC (x : It) (w : World) : Calls Tryz.prog 127 #[.agg #[.int .u64 x.key, .int .u32 x.ck, .int .i64 x.off, .int .i64 x.size]] w fun e w' => e = .returned (.bool (okB x)) ∧ Below w.heap.size w w' := Ur x.key x.ck x.off x.size w
theorem WD (v : Value) (l : List It) (g : Int) (w : World) (h : iQ w v l) (hs : l.length ≤ 80000) :
  Calls Tryz.prog 125 #[v, .int .i64 g] w fun e w' => (∃ s', e = .returned (yA s' (tD l g).live (tD l g).dW) ∧ eU w' w.heap.size s' (tD l g).st) ∧ Below w.heap.size w w' := by
 have Hr := zh h;have Cu := zh (fun v W h => qA v l W h (ak hs (by decide)));have nZ := zh (fun (ho : l.all okB = true) v W h => Vl v (fC l) W h (fun x hx => (UA (zKC ho) x hx).2.2.2.1) (ak (yU l) (ak hs (by decide))));have eE := zh (eB.new w Sl.nil 0 0 111);have eD := zh (zP w Sl.nil 0 0 111);have iR := zh (fun h => zJk (l := l) (g := g) h);have jo := zh (fun h h0 h1 => Qw (l := l) (g := g) h h0 h1);have WE := zh (show (∀ j, j < l.length → _) → _ from kH (l := l) (p := okB));have WG := zh (show ∀ j, j < l.length → _ → _ from fun j => tu (l := l) (p := okB) (j := j));have hl := yU l;have hsb := tp (fC l);have Gm : zv (fC l) ≤ 80000 * 4127 := ak hsb (aW _ (ak hl hs));clear h hsb;generalize tD l g = FM at *;generalize l.all okB = ob at *;generalize fC l = T at *;obtain ⟨a, cap, rfl, h1, h2⟩ := Hr.out.shape;generalize hn : l.length = n at *;clear hn
 go_enter Tryz.func125, Tryz.ntmps125
 go_upto_region 1 with fail;obtain ⟨W0, hW0⟩ : ∃ W0, w.alloc (.cells (yN Sl.nil 0 0) 111) = W0 := ⟨_, rfl⟩
 rw [hW0] at eE eD;rw [show w.alloc (.cells #[.slice none 0 0, .slice none 0 0, .slice none 0 0, .slice none 0 0, .slice none 0 0, .slice none 0 0, .slice none 0 0, .slice none 0 0, .int .i64 0, .int .i64 0] 111) = W0 from hW0];clear hW0;go_wp2_with fail
 go_loopw [5] (fun iv W => ∃ i : Nat, iv = .int .i64 (i : Int) ∧ i ≤ n ∧ Hid (∀ r, r < i → okB (dX l r) = true) ∧ Hid (Below W0.heap.size W0 W)) (fun iv _ => n - (intOf iv).toNat)
 case atStart => exact ⟨0, rfl, au _, zh (fun r hr => by omega), zh (aj _ _)⟩
 obtain ⟨i, rfl, hi, lI, HB⟩ := hrel
 by_cases hin : i < n
 ·
  have ii1 : (i : Int) < (n : Int) := by omega
  obtain ⟨pb, Gx, e, k0, k1, k2, k3⟩ := (Hr.out.below (zA eD.out HB.out)).at hin;subst e;have QN := zh (WG.out i hin)
  have pV := zh (fun (hx : okB (dX l i) = true) r (hr : r < i + 1) => show okB (dX l r) = true from by
   by_cases e : r = i
   ·
    rw [e]; exact hx
   exact lI.out r (by omega))
  generalize dX l i = x at *;have HV := zh (fun W => WC x W)
  cases hx : okB x
  ·
   rw [hx] at HV;have HF := zh (iR.out (fun h => by rw [QN.out hx] at h; cases h.1));clear hx QN pV iR jo;go_wp2_with fail;refine (HV.out _).mono ?_; rintro e w1 ⟨rfl, hb1⟩;have Bi := zh (eE.out.below (zA HB.out hb1));have ek := zh (zA eD.out (zA HB.out hb1));clear hb1 k0 k1 k2 k3;obtain ⟨c0, c1, c2, c3, c4, c5, c6, c7, c8, c9⟩ := Bi.out.q;have cF := Bi.out.f;go_wp2_with fail;change bodyPost _ _ _ _ _ (yC w1 w.heap.size Sl.nil 0 0);have hby := Bi.out.all Sl.nil 0 0;have sM := zh (zY ek.out (ai _) Sl.nil 0 0);generalize yC w1 w.heap.size Sl.nil 0 0 = V9 at *;exact aw (v := yA Sl.nil 0 0) (by simp [results, Tryz.results125, go_sem, hby.q]) rfl ⟨⟨Sl.nil, by rw [HF.out]; rfl, by rw [HF.out]; exact eU.nil _ _⟩, sM.out⟩
  rw [hx] at HV;have C4 := zh (pV.out hx);clear hx QN pV;go_wp2_with fail;refine (HV.out _).mono ?_; rintro e w1 ⟨rfl, hb1⟩;have ek := zh (zA HB.out hb1);clear hb1 k0 k1 k2 k3;go_wp2_with fail;exact ⟨⟨i + 1, by go_num, by omega, C4, ek⟩, by simp [intOf]; omega⟩
 have ii1 : ¬ (i : Int) < (n : Int) := by omega
 obtain rfl : i = n := by omega
 have KI : ob = true := WE.out lI.out;subst KI;have jM := zh (eE.out.below HB.out);have eQ := zh (zA eD.out HB.out);clear WE WG lI eE eD HB
 by_cases hg : 0 ≤ g ∧ g ≤ 1099511627776
 ·
  obtain ⟨hg0, hg1⟩ := hg;have g1 : decide (g < 0) = false := by simp; omega
  have g2 : decide (1099511627776 < g) = false := by simp; omega
  have WH := zh (jo.out rfl hg0 hg1);have QO := zh (nZ.out rfl);clear iR jo nZ;have BP := zh (Cu.out _ wr (Hr.out.below eQ.out));go_wp2_with fail;refine BP.out.mono ?_; rintro e w2 ⟨v2, rfl, ew, hb2⟩;have fU := zh (jM.out.below hb2);have eP := zh (zA eQ.out hb2);have fZ := zh (fg.rd ew);have KY := zh (QO.out _ w2 (fg.rd ew));obtain ⟨ta, tc, rfl, ht1, ht2⟩ := fZ.out.shape;clear ew hb2 jM eQ BP;go_wp2_with fail;refine KY.out.mono ?_; rintro e w3 ⟨rfl, hb3⟩;have gO := zh (fU.out.below hb3);have fV := zh (zA eP.out hb3);have mh := zh (fZ.out.below hb3);clear hb3 fU eP fZ KY;have HAs := zh (fun j (h : j < T.length) => zHo h);have NI := zh (fun j i => zJO T j i);have KJ := zh (zGn T);have HAz := zh (zJw T);generalize htn : T.length = tn at *;clear htn;generalize zv T = S at *;go_upto_region 10 with fail;obtain ⟨W4, NJ⟩ : ∃ W4, w3.alloc (.cells (yN Sl.nil (S : Int) g) 111) = W4 := ⟨_, rfl⟩
  have pQ := zh (show eB W4 w3.heap.size Sl.nil (S : Int) g from NJ ▸ eB.new w3 Sl.nil (S : Int) g 111);have fQ := zh (show Below w3.heap.size w3 W4 from NJ ▸ zP w3 Sl.nil (S : Int) g 111);have hm0 : w.heap.size < w3.heap.size := gO.out.lt;have hm1 : w3.heap.size < W4.heap.size := pQ.out.lt;rw [show w3.alloc (.cells #[.slice none 0 0, .slice none 0 0, .slice none 0 0, .slice none 0 0, .slice none 0 0, .slice none 0 0, .slice none 0 0, .slice none 0 0, .int .i64 (S : Int), .int .i64 g] 111) = W4 from NJ];clear NJ;go_wp2_with fail
  go_loopw [7] (fun iv W => ∃ (j : Nat) (s : Sl), iv = .int .i64 (j : Int) ∧ j ≤ tn ∧ Hid (eB W w3.heap.size s (S : Int) g) ∧ Hid (eU W W4.heap.size s (uE T j)) ∧ Hid (FK s) ∧ Hid (Below w3.heap.size w3 W) ∧ Hid (W4.heap.size ≤ W.heap.size)) (fun iv _ => tn - (intOf iv).toNat)
  case atStart => exact ⟨0, Sl.nil, rfl, au _, pQ, zh (by rw [KJ.out]; exact eU.nil _ _), zh FK.nil, fQ, zh (ai _)⟩
  obtain ⟨j, s, rfl, hj, HY, HO, HA, HB, HL⟩ := hrel
  by_cases hjt : j < tn
  ·
   have jj1 : (j : Int) < (tn : Int) := by omega
   obtain ⟨qb, aec, e, q0, q1, q2, q3⟩ := (mh.out.below HB.out).at hjt;subst e;have HAj := zh (HAs.out j hjt);have jJ := wS (dX T j).key;have WI := NI.out j (fl (dX T j).key);generalize dX T j = x at *;have jI := zh (fun W => Vj x.key W);generalize fl x.key = k at *;go_wp2_with fail;refine (jI.out _).mono ?_; rintro e w8 ⟨rfl, rfl⟩;have ck := HY.out.c k jJ;rw [show s.v k = .slice (s.a k) (s.n k) (s.c k) from rfl] at ck;have KZ := zh (show wr.ownsRow W4.heap.size 49 4 (.slice (s.a k) (s.n k) (s.c k)) (uE T j k).length (zU (uE T j k)) from HO.out k jJ);have fB := zh (show Below wr.heap.size wr (wr.alloc (xF x)).drew from zz (z8 wr x));have K0 := zh (ak HL.out fB.out.size)
   have K1 := zh (fun w9 va n vc (hown : World.ownsRow w9 W4.heap.size 49 4 (.slice va n vc) n (zU (uE T j k ++ [x]))) hg hat => zJc (w := (wr.alloc (xF x)).drew) (gO.out.below (zA HB.out fB.out)) (HY.out.below fB.out) (HO.out.keep fB.out) HA.out (T := []) (B2 := w3.heap.size + 1) (aU _ _ _ _) (zA HB.out fB.out) (ai _) hm0 (dA _) (Nat.succ_le_of_lt hm1) K0.out (fun g hg => by cases hg) jJ hown hg hat);have NK := zh (fun W (hg : (wr.alloc (xF x)).drew.grownBy W (s.v k).ownBlock) => ((HY.out.below fB.out).grown hg (um (HO.out k jJ) hm1)));have jm := zh (show ∀ u ∈ gZ x, u.oneCell' = true from by have := zn [x]; rwa [xM] at this);have HCu := zh (show zU (uE T j k ++ [x]) = zU (uE T j k) ++ gZ x by rw [zu, xM]);have ik8 : (k : Int) < 8 := by omega
   have aef : w3.heap.size < wr.heap.size := HY.out.lt;go_wp2_with fail
   go_region_law ((refine Wq (by rfl) (.tmp 51) (.tmp 56) 33 (by rfl) yE W4.heap.size (by rfl) ((KZ.out.alloc _).drew) (ad := ⟨wr.heap.size, 0, none⟩) (m := 1) (c := 1) (news := gZ x) (by rfl) (by rfl) (zH8 wr x _ rfl) jm.out (by unfold maxLen; omega) (by omega) K0.out ?_; intro v2 w9 ew fu AL; obtain ⟨mM, mN, hv2, _, _, _⟩ := zO ew; subst hv2; have QP := NK.out _ fu; have c2 := QP.c k jJ; have f2 := QP.f k; rw [show s.v k = .slice (s.a k) (s.n k) (s.c k) from rfl] at c2))
   all_goals
    obtain ⟨r1, r2, r3, r4, r5, r6⟩ := K1.out _ _ _ _ (by rw [HCu.out]; exact ew) fu AL;have K2 : W4.heap.size ≤ w9.heap.size := ak K0.out fu.size;clear c2 f2 QP ew fu AL ck K1 NK KZ r1 r5;have HR := zh (show _ ∧ _ ∧ _ ∧ _ from ⟨r2, r3, r4, r6⟩);clear r2 r3 r4 r6;go_wp2_with fail;obtain ⟨r2, r3, r4, r6⟩ := HR.out;exact ⟨⟨j + 1, s.set k mM ((uE T j k).length + 1) mN, by go_num, by omega, zh r2, zh (by rw [HAj.out]; exact r3), zh r4, zh r6, zh (by simpa using K2)⟩, by simp [intOf]; omega⟩
  have jj1 : ¬ (j : Int) < (tn : Int) := by omega
  obtain rfl : j = tn := by omega
  have Bi := zh (gO.out.below HB.out);have ek := zh (zA fV.out HB.out);obtain ⟨d0, d1, d2, d3, d4, d5, d6, d7, d8, d9⟩ := HY.out.q;have dF := HY.out.f;obtain ⟨c0, c1, c2, c3, c4, c5, c6, c7, c8, c9⟩ := Bi.out.q;have cF := Bi.out.f;go_wp2_with fail;change bodyPost _ _ _ _ _ (yC wr w.heap.size s (S : Int) g);have hby := Bi.out.all s (S : Int) g;have mC := zh ((HO.out.lg (b := w.heap.size) (by omega) s (S : Int) g).mono (show w.heap.size ≤ W4.heap.size by omega));have sM := zh (zY ek.out (ai _) s (S : Int) g);generalize yC wr w.heap.size s (S : Int) g = V9 at *;exact aw (v := yA s (S : Int) g) (by simp [results, Tryz.results125, go_sem, hby.q]) rfl ⟨⟨s, by rw [WH.out], by rw [WH.out]; show eU _ _ _ (fun i => nX i T); rw [← HAz.out]; exact mC.out⟩, sM.out⟩
 have HF := zh (iR.out (fun h => hg h.2));have hcs : g < 0 ∨ (0 ≤ g ∧ 1099511627776 < g) := by omega
 have Bi := jM;have ek := eQ;clear iR jo hg;rcases hcs with h0 | ⟨h0, h1'⟩
 ·
  have g1 : decide (g < 0) = true := by simp; omega
  obtain ⟨c0, c1, c2, c3, c4, c5, c6, c7, c8, c9⟩ := Bi.out.q;have cF := Bi.out.f;go_wp2_with fail;change bodyPost _ _ _ _ _ (yC wr w.heap.size Sl.nil 0 0);have hby := Bi.out.all Sl.nil 0 0;have sM := zh (zY ek.out (ai _) Sl.nil 0 0);generalize yC wr w.heap.size Sl.nil 0 0 = V9 at *;exact aw (v := yA Sl.nil 0 0) (by simp [results, Tryz.results125, go_sem, hby.q]) rfl ⟨⟨Sl.nil, by rw [HF.out]; rfl, by rw [HF.out]; exact eU.nil _ _⟩, sM.out⟩
 have g1 : decide (g < 0) = false := by simp; omega
 have g2 : decide (1099511627776 < g) = true := by simp; omega
 obtain ⟨c0, c1, c2, c3, c4, c5, c6, c7, c8, c9⟩ := Bi.out.q;have cF := Bi.out.f;go_wp2_with fail;change bodyPost _ _ _ _ _ (yC wr w.heap.size Sl.nil 0 0);have hby := Bi.out.all Sl.nil 0 0;have sM := zh (zY ek.out (ai _) Sl.nil 0 0);generalize yC wr w.heap.size Sl.nil 0 0 = V9 at *;exact aw (v := yA Sl.nil 0 0) (by simp [results, Tryz.results125, go_sem, hby.q]) rfl ⟨⟨Sl.nil, by rw [HF.out]; rfl, by rw [HF.out]; exact eU.nil _ _⟩, sM.out⟩
theorem wy (s : Sl) (M : Mp) (w : World) (h : fw w s M.st) (hs : ∀ i, i < 8 → (M.st i).length ≤ 10000) :
  Calls Tryz.prog 123 #[yA s M.live M.dW] w fun e w' => ∃ v', e = .returned v' ∧ fg w' w.heap.size v' (zI M) ∧ Below w.heap.size w w' := by
 have HV := zh (fun W h => vk s M W h (fun i hi => ak (hs i hi) (by decide)));have eE := zh (eB.new w s M.live M.dW 111);have eD := zh (zP w s M.live M.dW 111);have Hr := zh h;have HL := zh (fun i (hi : i < 8) => h.n hi);have K3 := zh (fun n (hn : n ≤ 8) => ak (qZ (M := M) (B := 10000) hs n hn) (aW _ hn));have Cu := zh (fun v l W h (hl : l.length ≤ 1000000) => qA v l W h hl);have HC := zh (fun n => PW M.st n);have HE := zh (fun i => show cat M.st (i + 1) = cat M.st i ++ M.st i from rfl);have jS := zh (show yw M = true → zI M = fC (cat M.st 8) from fun h => by unfold zI; rw [ag h]; rfl);have D_ := zh (show yw M = false → zI M = [] from fun h => by unfold zI; rw [h]; rfl);clear h hs;generalize yw M = vb at *;generalize zI M = I at *;obtain ⟨f, L, G⟩ := M;dsimp only at *
 go_enter Tryz.func123, Tryz.ntmps123
 go_wp2_with fail;obtain ⟨W0, hW0⟩ : ∃ W0, w.alloc (.cells (yN s L G) 111) = W0 := ⟨_, rfl⟩
 rw [hW0] at eE eD
 try rw [hW0]
 clear hW0
 go_loopw [3, 4] (fun ov iv W => ∃ i : Nat, iv = .int .i64 (i : Int) ∧ i ≤ 8 ∧ Hid (fg W W0.heap.size ov (cat f i)) ∧ Hid (i = 0 ∨ vb = true) ∧ Hid (Below W0.heap.size W0 W)) (fun _ iv _ => 8 - (intOf iv).toNat)
 case atStart => exact ⟨0, rfl, au _, zh (aU _ _ _ _), zh (.inl rfl), zh (aj _ _)⟩
 obtain ⟨i, rfl, hi, HO, Hz, HB⟩ := hrel;have iD := zh (show Below w.heap.size w wr from zA eD.out HB.out);have mX := zh (eE.out.below HB.out)
 by_cases hin : i < 8
 ·
  have i1 : (i : Int) < 8 := by omega
  have mU := zh (HV.out wr (Hr.out.below iD.out));have hL := HL.out i hin;have rW : s.v i = .slice (s.a i) (s.n i) (s.c i) := rfl;have iX := zh (fun w2 (hb : Below wr.heap.size wr w2) => (Hr.out i hin).below (zA iD.out hb));rw [rW, hL] at iX;have WJ := zh rW;have Bj := zh hL;clear rW hL;obtain ⟨c0, c1, c2, c3, c4, c5, c6, c7, c8, c9⟩ := mX.out.q;have cF := mX.out.f
  cases vb
  ·
   have Pm : i = 0 := by
    rcases Hz.out with h | h
    ·
     exact h
    cases h
   subst Pm;have HF := zh (D_.out rfl);clear D_ jS;go_wp2_with fail;refine mU.out.mono ?_; rintro e w2 ⟨rfl, hb2⟩;have gj := zh (zH HO.out hb2);have eP := zh (zA iD.out hb2);have BR := zh (Cu.out _ (cat f 0) w2 (fg.rd gj.out) (by simp [cat]));clear c0 c1 c2 c3 c4 c5 c6 c7 c8 c9 cF hb2;go_wp2_with fail;refine BR.out.mono ?_; rintro e w3 ⟨v3, rfl, ei, hb3⟩;have lB := zh (World.ownsRow.mono ei eP.out.size);have fV := zh (zA eP.out hb3);clear ei hb3;go_wp2_with fail;go_ret;exact ⟨_, rfl, by rw [HF.out]; exact lB.out, fV.out⟩
  go_wp2_with fail;refine mU.out.mono ?_; rintro e w2 ⟨rfl, hb2⟩;have gj := zh (zH HO.out hb2);have eP := zh (zA iD.out hb2);have K4 := zh (zA HB.out hb2);have fU := zh (mX.out.below hb2);have fZ := zh (tK (iX.out w2 hb2));have c1 := fU.out.c i hin;rw [WJ.out, Bj.out] at c1;have hm := K3.out (i + 1) (by omega);rw [HC.out i] at hm;have D3 := zh (HE.out i);have jm := zh (zn (f i));have hsz := K4.out.size;clear c0 c2 c3 c4 c5 c6 c7 c8 c9 hb2 mU iX WJ Bj;go_wp2_with (at_builtin; refine zd (n := (cat f i).length) (m := (f i).length) rfl (.tmp 13) (.tmp 17) 33 rfl yE W0.heap.size rfl gj.out rfl fZ.out jm.out (by unfold maxLen; omega) (by omega) hsz ?_; intro v4 w4 eZ gK hv4; clear hv4; have iB := zh (show fg w4 W0.heap.size v4 (cat f (i + 1)) from yI eZ (by rw [D3.out, zu])); have fQ := zh (zM K4.out gj.out hsz gK); clear eZ gK)
  exact ⟨⟨i + 1, by go_num, by omega, iB, zh (.inr trivial), fQ⟩, by simp [intOf]; omega⟩
 obtain rfl : i = 8 := by omega
 have hv : vb = true := by
  rcases Hz.out with h | h
  ·
   cases h
  exact h
 subst hv;have HF := zh (jS.out rfl);clear D_ jS;have BR := zh (Cu.out _ (cat f 8) wr (fg.rd HO.out) (ak (K3.out 8 (ai _)) (by decide)));go_wp2_with fail;refine BR.out.mono ?_; rintro e w3 ⟨v3, rfl, ei, hb3⟩;have lB := zh (World.ownsRow.mono ei iD.out.size);have fV := zh (zA iD.out hb3);clear ei hb3;go_wp2_with fail;go_ret;exact ⟨_, rfl, by rw [HF.out]; exact lB.out, fV.out⟩
theorem zGm (s : Sl) (M : Mp) (w : World) (h : fw w s M.st) (hs : ∀ i, i < 8 → (M.st i).length ≤ 10000) :
  Calls Tryz.prog 120 #[yA s M.live M.dW] w fun e w' => e = .returned (.int .i64 ((zI M).length : Int)) ∧ Below w.heap.size w w' := by
 have eD := zh (zP w s M.live M.dW 111);have HI := zh (wy s M _ (h.below eD.out) hs);generalize zI M = I at *;clear h hs;obtain ⟨f, L, G⟩ := M;dsimp only at *
 go_enter Tryz.func120, Tryz.ntmps120
 go_wp2_with fail;refine HI.out.mono ?_; rintro e w1 ⟨v1, rfl, hown1, hb1⟩;have eQ := zh (zA eD.out hb1);obtain ⟨a, c, hv, _⟩ := zO hown1;subst hv;clear hown1 hb1;go_wp2_with fail;go_ret;exact ⟨rfl, eQ.out⟩
theorem WL (s : Sl) (M : Mp) (key : Int) (w : World) (h : fw w s M.st) (hs : ∀ i, i < 8 → (M.st i).length ≤ 10000) :
  Calls Tryz.prog 124 #[yA s M.live M.dW, .int .u64 key] w fun e w' => e = .returned (.tuple #[jB ((ze M key).getD fJ), .bool (ze M key).isSome]) ∧ Below w.heap.size w w' := by
 have HI := zh (fun W h => wy s M W h hs);have GD := zh (gC.new (w.alloc (.cells (yN s M.live M.dW) 111)) fJ);rw [show (w.alloc (.cells (yN s M.live M.dW) 111)).heap.size = w.heap.size + 1 by simp] at GD;have eD := zh (zA (zP w s M.live M.dW 111) (z8 (w.alloc (.cells (yN s M.live M.dW) 111)) fJ));have HF := zh (fun v W h => zHU v (zI M) key W h (ak (wK hs) (by decide)));rw [vO] at HF;have Hr := zh h;clear h hs;generalize ze M key = o at *;generalize zI M = I at *;obtain ⟨f, L, G⟩ := M;dsimp only at *
 go_enter Tryz.func124, Tryz.ntmps124
 go_wp2_with fail;refine (HI.out _ (Hr.out.below eD.out)).mono ?_; rintro e w1 ⟨v1, rfl, hown1, hb1⟩;have eQ := zh (zA eD.out hb1);have Jo := zh (GD.out.below hb1);have O9 := zh (HF.out _ w1 (fg.rd hown1));clear hb1 hown1 eD GD;go_wp2_with fail;refine O9.out.mono ?_; rintro e w3 ⟨rfl, hb3⟩;have GF := zh (Jo.out.below hb3);have fV := zh (zA eQ.out hb3);clear hb3;obtain ⟨d0, d1, d2, d3⟩ := GF.out.t.q;have dF := GF.out.f;obtain ⟨y, hy⟩ : ∃ y, o.getD fJ = y := ⟨_, rfl⟩
 have Hy := zh hy;rw [hy];clear hy;go_wp2_with fail;change bodyPost _ _ _ _ _ (EC w3 (w.heap.size + 1) y);have hby := GF.out.put y;have ek := zh (uf fV.out (Nat.le_succ _) y);generalize EC w3 (w.heap.size + 1) y = V at *;obtain ⟨y0, y1, y2, y3⟩ := hby.t.q;exact aw (v := .tuple #[jB y, .bool o.isSome]) (by simp [results, Tryz.results124, go_sem, y0, y1, y2, y3]) rfl ⟨by rw [Hy.out], ek.out⟩
end Go.Proofs.YtcgfilmmokmdjaaGreat
