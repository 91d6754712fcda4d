/- A part of the walk. -/
import Derived.Test.YtcgfilmmokmdjaaGreatGv
import Derived.Test.YtcgfilmmokmdjaaGreatQAD
import Derived.Test.YtcgfilmmokmdjaaGreatQAH
import Derived.Test.YtcgfilmmokmdjaaGreatQAA
import Derived.Deep.Cut
import Derived.RegionTactic
import Derived.Deep.RegionLaw
import Derived.Test.YtcgfilmmokmdjaaGreatQAF
set_option maxRecDepth 100000
set_option maxHeartbeats 32000000
namespace Go.Proofs.YtcgfilmmokmdjaaGreat
open Go.RowKit
def fresh (num : Int) : Gn := ⟨num, 0, 1, 16, fun _ => [], 0, 0⟩
theorem kA (w : World) : fp w Sl.nil (fun _ => []) := fun _ _ => iu.nil 4 gW w
theorem k9 (num : Int) : yw (fresh num).m = true := by
 rw [zV];exact ⟨fun _ _ => rfl, fun _ _ x hx => (by cases hx), rfl, cS _, by show (0 : Int) ≤ 1099511627776; decide⟩
theorem k6 (num : Int) : ja (fresh num) ↔ 1 ≤ num ∧ num ≤ 8 := by
 constructor
 ·
  intro h; exact h.num
 intro h;refine ⟨h, ⟨cS _, by show (0 : Int) ≤ _; decide⟩, ?_, ?_, k9 num, rfl, rfl⟩
 ·
  show (1 : Int) ≤ 1 ∧ (1 : Int) ≤ 3; decide
 show (16 : Int) ≤ 16 ∧ (16 : Int) ≤ 1048576 ∧ (16 : Int) % 8 = 0; decide
theorem WL (num : Int) (hn : 1 ≤ num ∧ num ≤ 8) (w : World) : Calls Tryz.prog 60 #[.int .i64 num] w fun e w' => e = .returned (.tuple #[za num 0 1 16 Sl.nil 0 0, .int .i64 0]) ∧ Below w.heap.size w w' := by
 have HV := zh (fun W => vW (fresh num) Sl.nil W (kA W) (fun _ _ => au _));rw [(yD _).2 ((k6 num).2 hn)] at HV;dsimp only [fresh] at HV;have HN := zh (fun W => zKH W);have HB := zh (zQ w 0 0 0 0 Sl.nil 0 0 38);have HR := zh (eu.new w 0 0 0 0 Sl.nil 0 0 38);clear hn;generalize hnil : Sl.nil = s0 at *;have Dh := zh hnil;clear hnil
 go_enter Tryz.func60, Tryz.ntmps60
 go_wp2_with fail;refine (HN.out _).mono ?_;rintro e w1 ⟨rfl, dW⟩;obtain ⟨W0, eR⟩ : ∃ W0, w.alloc (.cells (zW 0 0 0 0 s0 0 0) 38) = W0 := ⟨_, rfl⟩
 have mD : Below (w.alloc (.cells (zW 0 0 0 0 s0 0 0) 38)).heap.size (w.alloc (.cells (zW 0 0 0 0 s0 0 0) 38)) w1 := by
  rw [← Dh.out]; exact dW
 rw [eR] at mD HB HR;have eO := zh (zA HB.out mD);have eY := zh (HR.out.below mD);clear dW mD HB HR eR;have Hs := eY.out.lt;generalize hb0 : w.heap.size = b0 at *;have E0 := zh hb0;clear hb0;go_upto_region 2 with fail;obtain ⟨W, hW⟩ : ∃ W, w1.alloc (.cells (zW num 0 1 16 s0 0 0) 38) = W := ⟨_, rfl⟩
 have HX := zh (eu.new w1 num 0 1 16 s0 0 0 38);have eB := zh (zQ w1 num 0 1 16 s0 0 0 38);change Code.wp _ _ _ _ (w1.alloc (.cells (zW num 0 1 16 s0 0 0) 38));rw [hW] at HX eB ⊢;clear hW;have fU := zh (eY.out.below eB.out);have eN := zh (iO eO.out (bN Hs) eB.out);have Hu := HX.out.lt;obtain ⟨m0, m1, m2, m3, m4, m5, m6, m7, m8, m9, m10, m11, m12, m13⟩ := HX.out.q;go_wp2_with fail;refine (HV.out _).mono ?_;rintro e w2 ⟨rfl, ez⟩;clear m0 m1 m2 m3 m4 m5 m6 m7 m8 m9 m10 m11 m12 m13;have gJ := zh (HX.out.below ez);have me := zh (fU.out.below ez);have fS := zh (iO eN.out (bN fU.out.lt) ez);have aeq := me.out.lt;have aer := gJ.out.lt;have hne : b0 ≠ w1.heap.size := by omega
 clear ez HX fU eN HV HN eY eO eB Hu;generalize w1.heap.size = b1 at *;obtain ⟨m0, m1, m2, m3, m4, m5, m6, m7, m8, m9, m10, m11, m12, m13⟩ := gJ.out.q;obtain ⟨d0, d1, d2, d3, d4, d5, d6, d7, d8, d9, d10, d11, d12, d13⟩ := me.out.q;have F := me.out.f;go_wp2_with fail;change bodyPost _ _ _ _ _ (pts w2 b0 (zL num 0 1 16 s0 0 0));have hby := me.out.all num 0 1 16 s0 0 0;have ea := zh (zD (B := b0) (ai _) (zL num 0 1 16 s0 0 0) fS.out);generalize pts w2 b0 (zL num 0 1 16 s0 0 0) = V at *;exact aw (v := .tuple #[za num 0 1 16 s0 0 0, .int .i64 0]) (by simp [results, Tryz.results60, go_sem, hby.q]) rfl ⟨rfl, by rw [E0.out]; exact ea.out⟩
end Go.Proofs.YtcgfilmmokmdjaaGreat
namespace Go.Proofs.YtcgfilmmokmdjaaGreat
instance : Inhabited Mp := ⟨⟨fun _ => [], 0, 0⟩⟩
def fT : Gn := ⟨0, 0, 0, 0, default⟩
instance : Inhabited Gn := ⟨fT⟩
def eH (l : List Gn) (i : Nat) : Gn := l.getD i fT
structure eE where
 id : Int
 lim : Int
 ro : Bool
 dP : List Gn
def Bi (s : eE) (i : Nat) : Prop :=
 wB (eH s.dP i) = true ∧ (0 < i → (eH s.dP (i - 1)).num < (eH s.dP i).num) ∧ ((eH s.dP i).mode = 1 ↔ i + 1 = s.dP.length) ∧ (eH s.dP i).size ≤ 2 * s.lim
structure ec (s : eE) : Prop where
 id : 0 ≤ s.id ∧ s.id < 4
 lim : 4136 ≤ s.lim ∧ s.lim ≤ 262144
 len : 1 ≤ s.dP.length ∧ s.dP.length ≤ 8
 g : ∀ i, i < s.dP.length → Bi s i
 top : (eH s.dP (s.dP.length - 1)).size + (((zI (eH s.dP (s.dP.length - 1)).m).length * 24 : Nat) : Int) ≤ 2 * s.lim
open Classical in
noncomputable def zg (s : eE) : Bool := decide (ec s)
theorem zR (s : eE) : zg s = true ↔ ec s := by unfold zg; simp
theorem qM {s : eE} (h : ¬ ec s) : zg s = false := by unfold zg; simp [h]
theorem ec.vg {s : eE} (h : ec s) {i : Nat} (hi : i < s.dP.length) : ja (eH s.dP i) := (yD _).1 (h.g i hi).1
theorem WN {s : eE} {i : Nat} (hi : i < s.dP.length) (h : ¬ Bi s i) : zg s = false := qM fun hv => h (hv.g i hi)
structure jT where
 gen : Int
 mode : Int
 rev : Int
 it : It
 at_ : Nat
def xu (l : List Gn) (key : Int) : Nat → List jT
 | 0 => []
 | n + 1 => (match ze (eH l n).m key with | some x => [⟨(eH l n).num, (eH l n).mode, (eH l n).rev, x, n⟩] | none => []) ++ xu l key n
noncomputable def yM (s : eE) (key : Int) : List jT := if zg s = true then xu s.dP key s.dP.length else []
end Go.Proofs.YtcgfilmmokmdjaaGreat
namespace Go.Proofs.YtcgfilmmokmdjaaGreat
open Go.RowKit
def Bj (g : Gn) (x : Nd) : It := ⟨(x.key : Int), (x.ck : Int), g.size, (x.data.length : Int)⟩
def yT (g : Gn) (x : Nd) : Gn := { g with m := if x.del then xA (yJ g.m x.key) (eG x.data.length : Nat) else wQ g.m (Bj g x), size := g.size + (eG x.data.length : Nat) }
def zb (g : Gn) (l : List Nd) : Gn := l.foldl yT g
def g_ (l : List Nd) : Nat := (l.map fun x => eG x.data.length).sum
instance (x : Nd) : Decidable x.ok := by unfold Nd.ok; infer_instance
def Ec (l : List Nd) : Bool := l.all fun x => decide x.ok
def yt (g : Gn) (l : List Nd) : Int × Gn := if wB g = true ∧ Ec l = true then (if g.mode = 1 then (if g.size + (g_ l : Int) ≤ 1048576 then (0, zb g l) else (9, fT)) else (12, fT)) else (1, fT)
def ye (g : Gn) (l : List Int) : Int × Gn := if wB g = true then (if g.mode = 1 then (12, fT) else (0, { g with m := l.foldl yJ g.m })) else (1, fT)
def xK (g : Gn) (fq : Int) : Int × Gn := if wB g = true then (if g.mode = fq then (0, { g with mode := fq + 1 }) else (12, fT)) else (1, fT)
def Hx (w0 : World) (p : Int × Gn) (e : Ending) (w' : World) : Prop := (∃ s, e = .returned (.tuple #[za p.2.num p.2.rev p.2.mode p.2.size s p.2.m.live p.2.m.dR, .int .i64 p.1]) ∧ eS w' w0.heap.size s p.2.m.st) ∧ Below w0.heap.size w0 w'
theorem vj (M : Mp) : xA M 0 = M := by
 unfold xA
 split
 ·
  rw [Int.add_zero]
 rfl
theorem WO : g_ [] = 0 := rfl
theorem wu (x : Nd) (l : List Nd) : g_ (x :: l) = eG x.data.length + g_ l := by simp [g_]
theorem tY (g : Gn) (l : List Nd) (x : Nd) : zb g (l ++ [x]) = yT (zb g l) x := by simp [zb]
theorem kY (l : List Nd) (x : Nd) : g_ (l ++ [x]) = g_ l + eG x.data.length := by simp [g_]
theorem uA (g : Gn) (x : Nd) : (yT g x).size = g.size + (eG x.data.length : Nat) := rfl
theorem wP (g : Gn) : ∀ l, (zb g l).size = g.size + (g_ l : Nat)
 | [] => by simp [zb, g_]
 | x :: r => by
  have := wP (yT g x) r;rw [uA] at this
  show (zb (yT g x) r).size = _
  rw [this, wu]; omega
theorem WQ (g : Gn) (x : Nd) : (yT g x).num = g.num ∧ (yT g x).rev = g.rev ∧ (yT g x).mode = g.mode := ⟨rfl, rfl, rfl⟩
theorem uc : ∀ (l : List Nd) (g : Gn), (zb g l).num = g.num ∧ (zb g l).rev = g.rev ∧ (zb g l).mode = g.mode
 | [], _ => ⟨rfl, rfl, rfl⟩
 | x :: r, g => by
  have := uc r (yT g x);exact this
theorem zHf (M : Mp) (x : It) {n : Nat} (h : ∀ i, i < 8 → (M.st i).length ≤ n) : ∀ i, i < 8 → ((wQ M x).st i).length ≤ n + 1 := fun i hi => by
 unfold wQ
 split
 ·
  show (if i = zh x.key then ins (M.st i) x else M.st i).length ≤ n + 1
  have h1 := vQ x (M.st i);have h2 := h i hi
  split <;> omega
 have h2 := h i hi; omega
theorem qD (M : Mp) (k : Int) {n : Nat} (h : ∀ i, i < 8 → (M.st i).length ≤ n) : ∀ i, i < 8 → ((yJ M k).st i).length ≤ n := fun i hi => by
 unfold yJ
 split
 ·
  exact h i hi
 split
 ·
  show (if i = zh k then gd (M.st i) k else M.st i).length ≤ n
  have h1 := uZ (M.st i) k;have h2 := h i hi
  split <;> omega
 exact h i hi
theorem uI (M : Mp) (z : Int) : (xA M z).st = M.st := by unfold xA; split <;> rfl
theorem zE6 (g : Gn) (x : Nd) {n : Nat} (h : ∀ i, i < 8 → (g.m.st i).length ≤ n) : ∀ i, i < 8 → ((yT g x).m.st i).length ≤ n + 1 := fun i hi => by
 unfold yT;dsimp only
 split
 ·
  rw [uI];exact Nat.le_succ_of_le (qD _ _ h i hi)
 exact zHf _ _ h i hi
theorem wL : ∀ (l : List Nd) (g : Gn) {n : Nat}, (∀ i, i < 8 → (g.m.st i).length ≤ n) → ∀ i, i < 8 → ((zb g l).m.st i).length ≤ n + l.length
 | [], _, _, h => h
 | x :: r, g, n, h => fun i hi => by
  have := wL r (yT g x) (zE6 g x h) i hi;rw [aY];exact ak this (by omega)
theorem wI : ∀ (l : List Int) (M : Mp) {n : Nat}, (∀ i, i < 8 → (M.st i).length ≤ n) → ∀ i, i < 8 → ((l.foldl yJ M).st i).length ≤ n
 | [], _, _, h => h
 | x :: r, M, _, h => wI r (yJ M x) (qD M x h)
abbrev Ra (x : Nd) (v : Value) : Value := .agg #[.int .u64 (x.key : Int), .int .u32 (x.ck : Int), .bool x.del, v]
theorem WS (w : World) : oD w (.slice none 0 0) [] := kJ (aV w 0 5 1)
def vy (p : Nd × Value) : List Value := [.int .u64 (p.1.key : Int), .int .u32 (p.1.ck : Int), .bool p.1.del, p.2]
theorem zHh (p : Nd × Value) : (vy p).length = 4 := rfl
def wM (es : List (Nd × Value)) : List Value := es.flatMap vy
theorem wh (es : List (Nd × Value)) : (wM es).length = es.length * 4 := yS 4 vy es fun x _ => zHh x
theorem WT : xj Tryz.prog 23 56 4 40 := by
 obtain ⟨i, hi, hz, hs, hb⟩ := cn (P := Tryz.prog) (e := 56) (z := .agg #[.int .u64 0, .int .u32 0, .bool false, .slice none 0 0]) (size := 4) (bytes := 40) (by kernel_rfl);exact ⟨Tryz.underlying23, by decide, i, _, hi, hz, hs, hb, rfl⟩
structure mK (w : World) (v : Value) (es : List (Nd × Value)) : Prop where
 row : Rd w 4 v es.length (wM es)
 dat : ∀ p ∈ es, oD w p.2 p.1.data
theorem mK.below {w w' : World} {v : Value} {es : List (Nd × Value)} (h : mK w v es) (hb : Below w.heap.size w w') : mK w' v es := ⟨h.row.below hb, fun p hp => ik.below (h.dat p hp) hb⟩
def xb (es : List (Nd × Value)) (j : Nat) : Nd × Value := es.getD j (Jt, .slice none 0 0)
theorem uM {es : List (Nd × Value)} {j : Nat} (h : j < es.length) : xb es j ∈ es := by
 unfold xb; rw [ax, aB h]; exact bJ h
theorem mK.shape {w : World} {v : Value} {es : List (Nd × Value)} (h : mK w v es) : ∃ a cap, v = .slice a es.length cap ∧ es.length ≤ cap ∧ cap ≤ maxLen := by
 obtain ⟨_, a, cap, h1, h2, h3, _⟩ := h.row;exact ⟨a, cap, h1, h2, h3⟩
theorem mK.at {w : World} {a : Option Addr} {n cap : Nat} {es : List (Nd × Value)} (h : mK w (.slice a n cap) es) {j : Nat} (hj : j < n) : ∃ b off, a = some ⟨b, off, none⟩ ∧ oD w (xb es j).2 (xb es j).1.data ∧
  w.cell? ⟨b, off + j * 4, none⟩ = some (.int .u64 ((xb es j).1.key : Int)) ∧ w.cell? ⟨b, off + j * 4 + 1, none⟩ = some (.int .u32 ((xb es j).1.ck : Int)) ∧
  w.cell? ⟨b, off + j * 4 + 2, none⟩ = some (.bool (xb es j).1.del) ∧ w.cell? ⟨b, off + j * 4 + 3, none⟩ = some (xb es j).2 := by
 have hn : n = es.length := by
  obtain ⟨_, _, _, e, _⟩ := h.row;injection e
 subst hn;obtain ⟨_, a', cap', e, _, _, _, hc⟩ := h.row;injection e with e1;obtain ⟨b, off, e2, hc⟩ := hc (by rw [wh]; omega);refine ⟨b, off, e1.trans e2, h.dat _ (uM hj), ?_⟩
 have hat : ∀ i, i < 4 → ∀ u, (vy (xb es j))[i]? = some u → w.cell? ⟨b, off + (j * 4 + i), none⟩ = some u := fun i hi u hu => hc (j * 4 + i) u (by
  rw [show wM es = es.flatMap vy from rfl, ux 4 vy (Jt, .slice none 0 0) es (fun _ _ => rfl) j i hj hi]; exact hu)
 exact ⟨hat 0 (by omega) _ rfl, hat 1 (by omega) _ rfl, hat 2 (by omega) _ rfl, hat 3 (by omega) _ rfl⟩
structure AK (W : World) (b : Nat) (x : Nd) (v : Value) : Prop where
 c0 : W.cell? ⟨b, 0, none⟩ = some (.int .u64 (x.key : Int))
 c1 : W.cell? ⟨b, 1, none⟩ = some (.int .u32 (x.ck : Int))
 c2 : W.cell? ⟨b, 2, none⟩ = some (.bool x.del)
 c3 : W.cell? ⟨b, 3, none⟩ = some v
 f : ∀ i, W.frozen? ⟨b, i, none⟩ = false
theorem AK.q {W : World} {b : Nat} {x : Nd} {v : Value} (h : AK W b x v) : W.cell? ⟨b, 0, none⟩ = some (.int .u64 (x.key : Int)) ∧ W.cell? ⟨b, 1, none⟩ = some (.int .u32 (x.ck : Int)) ∧ W.cell? ⟨b, 2, none⟩ = some (.bool x.del) ∧ W.cell? ⟨b, 3, none⟩ = some v := ⟨h.c0, h.c1, h.c2, h.c3⟩
abbrev Li (x : Nd) (v : Value) : Array Value := #[.int .u64 (x.key : Int), .int .u32 (x.ck : Int), .bool x.del, v]
theorem AK.new (W : World) (x : Nd) (v : Value) : AK (W.alloc (.cells (Li x v) 56)) W.heap.size x v := ⟨by simp, by simp, by simp, by simp, fun i => by simp⟩
theorem Rb (w : World) (x : Nd) (v : Value) : Below w.heap.size w (w.alloc (.cells (Li x v) 56)) := (aj _ _).alloc (ai _) _
theorem zC6 (x : Nd) (a : Option Addr) (cap : Nat) (w : World) : Calls Tryz.prog 80 #[Ra x (.slice a x.data.length cap)] w fun e w' => e = .returned (.bool (decide x.ok)) ∧ Below w.heap.size w w' := by
 obtain ⟨k, c, d, l⟩ := x;dsimp only;have HB := zh (show Below w.heap.size w (w.alloc (.cells #[.int .u64 (k : Int), .int .u32 (c : Int), .bool d, .slice a l.length cap] 56)) from (aj _ _).alloc (ai _) _)
 have HO := zh (show decide (Nd.ok ⟨k, c, d, l⟩) = (decide ((l.length : Int) ≤ 4096) && !(d && decide (0 < (l.length : Int)))) by
  unfold Nd.ok
  dsimp only
  have e : (l = []) ↔ ¬ 0 < l.length := by rw [← List.length_eq_zero_iff]; omega
  cases d
  ·
   simp only [Bool.false_and, Bool.not_false, Bool.and_true, reduceCtorEq, false_imp_iff, and_true]
   exact decide_eq_decide.2 (by omega)
  simp only [cE, forall_const, e]
  rw [dh, aU, aM, aU, Bool.not_eq_true', decide_eq_false_iff_not]
  omega)
 generalize decide (Nd.ok ⟨k, c, d, l⟩) = ob at *;generalize l.length = n at *
 go_enter Tryz.func80, Tryz.ntmps80
 by_cases h1 : (n : Int) ≤ 4096
 ·
  have d1 : decide ((n : Int) ≤ 4096) = true := aF h1
  cases d
  ·
   go_wp2_with fail;go_ret;exact ⟨zE (by rw [HO.out, d1]; rfl), HB.out⟩
  by_cases h2 : 0 < (n : Int)
  ·
   have d2 : decide (0 < (n : Int)) = true := aF h2;go_wp2_with fail;go_ret;have h3 : 0 < n := by omega
   exact ⟨zE (by rw [HO.out, d1, d2]; simp [h3]), HB.out⟩
  have d2 : decide (0 < (n : Int)) = false := aD h2;go_wp2_with fail;go_ret;have h3 : ¬ 0 < n := by omega
  exact ⟨zE (by rw [HO.out, d1, d2]; simp [h3]), HB.out⟩
 have d1 : decide ((n : Int) ≤ 4096) = false := aD h1;go_wp2_with fail;go_ret;exact ⟨zE (by rw [HO.out, d1]; rfl), HB.out⟩
/-! ### From -/
def uE (T : List It) (j : Nat) (i : Nat) : List It := nV i (T.take j)
theorem zH1 {T : List It} {j : Nat} (h : j < T.length) : uE T (j + 1) (zh (dS T j).key) = uE T j (zh (dS T j).key) ++ [dS T j] := by
 unfold uE nV;rw [xB h, cO];simp
theorem zKd {T : List It} {j i : Nat} (h : j < T.length) (hi : i ≠ zh (dS T j).key) : uE T (j + 1) i = uE T j i := by
 unfold uE nV;rw [xB h, cO];simp [aO hi]
theorem zHo {T : List It} {j : Nat} (h : j < T.length) : uE T (j + 1) = fun i => if i = zh (dS T j).key then uE T j (zh (dS T j).key) ++ [dS T j] else uE T j i := funext fun i => by
 by_cases e : i = zh (dS T j).key
 ·
  rw [ag e, e, zH1 h]
 rw [ah e, zKd h e]
theorem zJO (T : List It) (j i : Nat) : (uE T j i).length ≤ j := by
 unfold uE;exact ak (zJ7 _ _) (by rw [ay]; omega)
theorem zGn (T : List It) : uE T 0 = fun _ => [] := funext fun _ => rfl
theorem zJw (T : List It) : uE T T.length = fun i => nV i T := funext fun i => by unfold uE; rw [ct]
theorem WU (x : It) (w : World) : Calls Tryz.prog 127 #[.agg #[.int .u64 x.key, .int .u32 x.ck, .int .i64 x.off, .int .i64 x.size]] w fun e w' => e = .returned (.bool (okB x)) ∧ Below w.heap.size w w' := UI x.key x.ck x.off x.size w
theorem WW (v : Value) (l : List It) (g : Int) (w : World) (h : iP w v l) (hs : l.length ≤ 80000) :
  Calls Tryz.prog 125 #[v, .int .i64 g] w fun e w' => (∃ s', e = .returned (yA s' (tD l g).live (tD l g).dR) ∧ eS w' w.heap.size s' (tD l g).st) ∧ Below w.heap.size w w' := by
 have Hr := zh h;have Cz := zh (fun v W h => qA v l W h (ak hs (by decide)));have nX := zh (fun (ho : l.all okB = true) v W h => VC v (fw l) W h (fun x hx => (UR (zKC ho) x hx).2.2.2.1) (ak (yU l) (ak hs (by decide))));have eB := zh (ew.new w Sl.nil 0 0 111);have eA := zh (zP w Sl.nil 0 0 111);have iQ := zh (fun h => zJk (l := l) (g := g) h);have jo := zh (fun h h0 h1 => QS (l := l) (g := g) h h0 h1);have WX := zh (show (∀ j, j < l.length → _) → _ from kH (l := l) (p := okB));have WY := zh (show ∀ j, j < l.length → _ → _ from fun j => tu (l := l) (p := okB) (j := j));have hl := yU l;have hsb := tp (fw l);have Gx : zv (fw l) ≤ 80000 * 4127 := ak hsb (aX _ (ak hl hs));clear h hsb;generalize tD l g = FM at *;generalize l.all okB = ob at *;generalize fw l = T at *;obtain ⟨a, cap, rfl, h1, h2⟩ := Hr.out.shape;generalize hn : l.length = n at *;clear hn
 go_enter Tryz.func125, Tryz.ntmps125
 go_upto_region 1 with fail;obtain ⟨W0, eR⟩ : ∃ W0, w.alloc (.cells (yN Sl.nil 0 0) 111) = W0 := ⟨_, rfl⟩
 rw [eR] at eB eA;rw [show w.alloc (.cells #[.slice none 0 0, .slice none 0 0, .slice none 0 0, .slice none 0 0, .slice none 0 0, .slice none 0 0, .slice none 0 0, .slice none 0 0, .int .i64 0, .int .i64 0] 111) = W0 from eR];clear eR;go_wp2_with fail
 go_loopw [5] (fun iv W => ∃ i : Nat, iv = .int .i64 (i : Int) ∧ i ≤ n ∧ Hid (∀ r, r < i → okB (dS l r) = true) ∧ Hid (Below W0.heap.size W0 W)) (fun iv _ => n - (intOf iv).toNat)
 case atStart => exact ⟨0, rfl, au _, zh (fun r hr => by omega), zh (aj _ _)⟩
 obtain ⟨i, rfl, hi, lG, HB⟩ := eT
 by_cases hin : i < n
 ·
  have ii1 : (i : Int) < (n : Int) := by omega
  obtain ⟨pb, GK, e, k0, k1, k2, k3⟩ := (Hr.out.below (zA eA.out HB.out)).at hin;subst e;have Rc := zh (WY.out i hin)
  have pP := zh (fun (hx : okB (dS l i) = true) r (hr : r < i + 1) => show okB (dS l r) = true from by
   by_cases e : r = i
   ·
    rw [e]; exact hx
   exact lG.out r (by omega))
  generalize dS l i = x at *;have HV := zh (fun W => WU x W)
  cases hx : okB x
  ·
   rw [hx] at HV;have HF := zh (iQ.out (fun h => by rw [Rc.out hx] at h; cases h.1));clear hx Rc pP iQ jo;go_wp2_with fail;refine (HV.out _).mono ?_; rintro e w1 ⟨rfl, dW⟩;have Bk := zh (eB.out.below (zA HB.out dW));have ea := zh (zA eA.out (zA HB.out dW));clear dW k0 k1 k2 k3;obtain ⟨c0, c1, c2, c3, c4, c5, c6, c7, c8, c9⟩ := Bk.out.q;have cF := Bk.out.f;go_wp2_with fail;change bodyPost _ _ _ _ _ (yC w1 w.heap.size Sl.nil 0 0);have hby := Bk.out.all Sl.nil 0 0;have sM := zh (zY ea.out (ai _) Sl.nil 0 0);generalize yC w1 w.heap.size Sl.nil 0 0 = V9 at *;exact aw (v := yA Sl.nil 0 0) (by simp [results, Tryz.results125, go_sem, hby.q]) rfl ⟨⟨Sl.nil, by rw [HF.out]; rfl, by rw [HF.out]; exact eS.nil _ _⟩, sM.out⟩
  rw [hx] at HV;have C_ := zh (pP.out hx);clear hx Rc pP;go_wp2_with fail;refine (HV.out _).mono ?_; rintro e w1 ⟨rfl, dW⟩;have ea := zh (zA HB.out dW);clear dW k0 k1 k2 k3;go_wp2_with fail;exact ⟨⟨i + 1, by go_num, by omega, C_, ea⟩, by simp [intOf]; omega⟩
 have ii1 : ¬ (i : Int) < (n : Int) := by omega
 obtain rfl : i = n := by omega
 have K4 : ob = true := WX.out lG.out;subst K4;have jM := zh (eB.out.below HB.out);have eO := zh (zA eA.out HB.out);clear WX WY lG eB eA HB
 by_cases hg : 0 ≤ g ∧ g ≤ 1099511627776
 ·
  obtain ⟨sj, hg1⟩ := hg;have g1 : decide (g < 0) = false := by simp; omega
  have g2 : decide (1099511627776 < g) = false := by simp; omega
  have WZ := zh (jo.out rfl sj hg1);have Rf := zh (nX.out rfl);clear iQ jo nX;have BP := zh (Cz.out _ wr (Hr.out.below eO.out));go_wp2_with fail;refine BP.out.mono ?_; rintro e w2 ⟨v2, rfl, eo, ez⟩;have fQ := zh (jM.out.below ez);have eN := zh (zA eO.out ez);have fU := zh (fc.rd eo);have Lj := zh (Rf.out _ w2 (fc.rd eo));obtain ⟨ta, tc, rfl, ht1, ht2⟩ := fU.out.shape;clear eo ez jM eO BP;go_wp2_with fail;refine Lj.out.mono ?_; rintro e w3 ⟨rfl, eU⟩;have gJ := zh (fQ.out.below eU);have fS := zh (zA eN.out eU);have me := zh (fU.out.below eU);clear eU fQ eN fU Lj;have HAs := zh (fun j (h : j < T.length) => zHo h);have N4 := zh (fun j i => zJO T j i);have K5 := zh (zGn T);have HAz := zh (zJw T);generalize htn : T.length = tn at *;clear htn;generalize zv T = S at *;go_upto_region 10 with fail;obtain ⟨W4, N5⟩ : ∃ W4, w3.alloc (.cells (yN Sl.nil (S : Int) g) 111) = W4 := ⟨_, rfl⟩
  have pM := zh (show ew W4 w3.heap.size Sl.nil (S : Int) g from N5 ▸ ew.new w3 Sl.nil (S : Int) g 111);have fM := zh (show Below w3.heap.size w3 W4 from N5 ▸ zP w3 Sl.nil (S : Int) g 111);have hm0 : w.heap.size < w3.heap.size := gJ.out.lt;have Cr : w3.heap.size < W4.heap.size := pM.out.lt;rw [show w3.alloc (.cells #[.slice none 0 0, .slice none 0 0, .slice none 0 0, .slice none 0 0, .slice none 0 0, .slice none 0 0, .slice none 0 0, .slice none 0 0, .int .i64 (S : Int), .int .i64 g] 111) = W4 from N5];clear N5;go_wp2_with fail
  go_loopw [7] (fun iv W => ∃ (j : Nat) (s : Sl), iv = .int .i64 (j : Int) ∧ j ≤ tn ∧ Hid (ew W w3.heap.size s (S : Int) g) ∧ Hid (eS W W4.heap.size s (uE T j)) ∧ Hid (FQ s) ∧ Hid (Below w3.heap.size w3 W) ∧ Hid (W4.heap.size ≤ W.heap.size)) (fun iv _ => tn - (intOf iv).toNat)
  case atStart => exact ⟨0, Sl.nil, rfl, au _, pM, zh (by rw [K5.out]; exact eS.nil _ _), zh FQ.nil, fM, zh (ai _)⟩
  obtain ⟨j, s, rfl, hj, HY, HO, HA, HB, HL⟩ := eT
  by_cases hjt : j < tn
  ·
   have jj1 : (j : Int) < (tn : Int) := by omega
   obtain ⟨qb, aeH, e, q0, q1, q2, q3⟩ := (me.out.below HB.out).at hjt;subst e;have HAj := zh (HAs.out j hjt);have jJ := wS (dS T j).key;have W5 := N4.out j (zh (dS T j).key);generalize dS T j = x at *;have jI := zh (fun W => VA x.key W);generalize zh x.key = k at *;go_wp2_with fail;refine (jI.out _).mono ?_; rintro e w8 ⟨rfl, rfl⟩;have ck := HY.out.c k jJ;rw [show s.v k = .slice (s.a k) (s.n k) (s.c k) from rfl] at ck;have Lk := zh (show wr.ownsRow W4.heap.size 49 4 (.slice (s.a k) (s.n k) (s.c k)) (uE T j k).length (zU (uE T j k)) from HO.out k jJ);have fu := zh (show Below wr.heap.size wr (wr.alloc (xF x)).drew from zz (z8 wr x));have Ll := zh (ak HL.out fu.out.size)
   have Lm := zh (fun w9 va n vc (hown : World.ownsRow w9 W4.heap.size 49 4 (.slice va n vc) n (zU (uE T j k ++ [x]))) hg hat => zJc (w := (wr.alloc (xF x)).drew) (gJ.out.below (zA HB.out fu.out)) (HY.out.below fu.out) (HO.out.keep fu.out) HA.out (T := []) (B2 := w3.heap.size + 1) (aV _ _ _ _) (zA HB.out fu.out) (ai _) hm0 (dt _) (Nat.succ_le_of_lt Cr) Ll.out (fun g hg => by cases hg) jJ hown hg hat);have N6 := zh (fun W (hg : (wr.alloc (xF x)).drew.grownBy W (s.v k).ownBlock) => ((HY.out.below fu.out).grown hg (um (HO.out k jJ) Cr)));have jm := zh (show ∀ u ∈ gW x, u.oneCell' = true from by have := zn [x]; rwa [xM] at this);have HCu := zh (show zU (uE T j k ++ [x]) = zU (uE T j k) ++ gW x by rw [zu, xM]);have ik8 : (k : Int) < 8 := by omega
   have aeK : w3.heap.size < wr.heap.size := HY.out.lt;go_wp2_with fail
   go_region_law ((refine WI (by rfl) (.tmp 51) (.tmp 56) 33 (by rfl) yE W4.heap.size (by rfl) ((Lk.out.alloc _).drew) (ad := ⟨wr.heap.size, 0, none⟩) (m := 1) (c := 1) (news := gW x) (by rfl) (by rfl) (zH8 wr x _ rfl) jm.out (by unfold maxLen; omega) (by omega) Ll.out ?_; intro v2 w9 eo fm AL; obtain ⟨mL, mM, oG, _, _, _⟩ := zO eo; subst oG; have Rg := N6.out _ fm; have c2 := Rg.c k jJ; have f2 := Rg.f k; rw [show s.v k = .slice (s.a k) (s.n k) (s.c k) from rfl] at c2))
   all_goals
    obtain ⟨r1, r2, r3, r4, r5, r6⟩ := Lm.out _ _ _ _ (by rw [HCu.out]; exact eo) fm AL;have Ln : W4.heap.size ≤ w9.heap.size := ak Ll.out fm.size;clear c2 f2 Rg eo fm AL ck Lm N6 Lk r1 r5;have HR := zh (show _ ∧ _ ∧ _ ∧ _ from ⟨r2, r3, r4, r6⟩);clear r2 r3 r4 r6;go_wp2_with fail;obtain ⟨r2, r3, r4, r6⟩ := HR.out;exact ⟨⟨j + 1, s.set k mL ((uE T j k).length + 1) mM, by go_num, by omega, zh r2, zh (by rw [HAj.out]; exact r3), zh r4, zh r6, zh (by simpa using Ln)⟩, by simp [intOf]; omega⟩
  have jj1 : ¬ (j : Int) < (tn : Int) := by omega
  obtain rfl : j = tn := by omega
  have Bk := zh (gJ.out.below HB.out);have ea := zh (zA fS.out HB.out);obtain ⟨d0, d1, d2, d3, d4, d5, d6, d7, d8, d9⟩ := HY.out.q;have dF := HY.out.f;obtain ⟨c0, c1, c2, c3, c4, c5, c6, c7, c8, c9⟩ := Bk.out.q;have cF := Bk.out.f;go_wp2_with fail;change bodyPost _ _ _ _ _ (yC wr w.heap.size s (S : Int) g);have hby := Bk.out.all s (S : Int) g;have mr := zh ((HO.out.lg (b := w.heap.size) (by omega) s (S : Int) g).mono (show w.heap.size ≤ W4.heap.size by omega));have sM := zh (zY ea.out (ai _) s (S : Int) g);generalize yC wr w.heap.size s (S : Int) g = V9 at *;exact aw (v := yA s (S : Int) g) (by simp [results, Tryz.results125, go_sem, hby.q]) rfl ⟨⟨s, by rw [WZ.out], by rw [WZ.out]; show eS _ _ _ (fun i => nV i T); rw [← HAz.out]; exact mr.out⟩, sM.out⟩
 have HF := zh (iQ.out (fun h => hg h.2));have hcs : g < 0 ∨ (0 ≤ g ∧ 1099511627776 < g) := by omega
 have Bk := jM;have ea := eO;clear iQ jo hg;rcases hcs with h0 | ⟨h0, h1'⟩
 ·
  have g1 : decide (g < 0) = true := by simp; omega
  obtain ⟨c0, c1, c2, c3, c4, c5, c6, c7, c8, c9⟩ := Bk.out.q;have cF := Bk.out.f;go_wp2_with fail;change bodyPost _ _ _ _ _ (yC wr w.heap.size Sl.nil 0 0);have hby := Bk.out.all Sl.nil 0 0;have sM := zh (zY ea.out (ai _) Sl.nil 0 0);generalize yC wr w.heap.size Sl.nil 0 0 = V9 at *;exact aw (v := yA Sl.nil 0 0) (by simp [results, Tryz.results125, go_sem, hby.q]) rfl ⟨⟨Sl.nil, by rw [HF.out]; rfl, by rw [HF.out]; exact eS.nil _ _⟩, sM.out⟩
 have g1 : decide (g < 0) = false := by simp; omega
 have g2 : decide (1099511627776 < g) = true := by simp; omega
 obtain ⟨c0, c1, c2, c3, c4, c5, c6, c7, c8, c9⟩ := Bk.out.q;have cF := Bk.out.f;go_wp2_with fail;change bodyPost _ _ _ _ _ (yC wr w.heap.size Sl.nil 0 0);have hby := Bk.out.all Sl.nil 0 0;have sM := zh (zY ea.out (ai _) Sl.nil 0 0);generalize yC wr w.heap.size Sl.nil 0 0 = V9 at *;exact aw (v := yA Sl.nil 0 0) (by simp [results, Tryz.results125, go_sem, hby.q]) rfl ⟨⟨Sl.nil, by rw [HF.out]; rfl, by rw [HF.out]; exact eS.nil _ _⟩, sM.out⟩
theorem wy (s : Sl) (M : Mp) (w : World) (h : fp w s M.st) (hs : ∀ i, i < 8 → (M.st i).length ≤ 10000) :
  Calls Tryz.prog 123 #[yA s M.live M.dR] w fun e w' => ∃ v', e = .returned v' ∧ fc w' w.heap.size v' (zI M) ∧ Below w.heap.size w w' := by
 have HV := zh (fun W h => vk s M W h (fun i hi => ak (hs i hi) (by decide)));have eB := zh (ew.new w s M.live M.dR 111);have eA := zh (zP w s M.live M.dR 111);have Hr := zh h;have HL := zh (fun i (hi : i < 8) => h.n hi);have Lp := zh (fun n (hn : n ≤ 8) => ak (qZ (M := M) (B := 10000) hs n hn) (aX _ hn));have Cz := zh (fun v l W h (hl : l.length ≤ 1000000) => qA v l W h hl);have HC := zh (fun n => Qk M.st n);have HE := zh (fun i => show cat M.st (i + 1) = cat M.st i ++ M.st i from rfl);have jS := zh (show yw M = true → zI M = fw (cat M.st 8) from fun h => by unfold zI; rw [ag h]; rfl);have Ed := zh (show yw M = false → zI M = [] from fun h => by unfold zI; rw [h]; rfl);clear h hs;generalize yw M = vb at *;generalize zI M = I at *;obtain ⟨f, L, G⟩ := M;dsimp only at *
 go_enter Tryz.func123, Tryz.ntmps123
 go_wp2_with fail;obtain ⟨W0, eR⟩ : ∃ W0, w.alloc (.cells (yN s L G) 111) = W0 := ⟨_, rfl⟩
 rw [eR] at eB eA
 try rw [eR]
 clear eR
 go_loopw [3, 4] (fun ov iv W => ∃ i : Nat, iv = .int .i64 (i : Int) ∧ i ≤ 8 ∧ Hid (fc W W0.heap.size ov (cat f i)) ∧ Hid (i = 0 ∨ vb = true) ∧ Hid (Below W0.heap.size W0 W)) (fun _ iv _ => 8 - (intOf iv).toNat)
 case atStart => exact ⟨0, rfl, au _, zh (aV _ _ _ _), zh (.inl rfl), zh (aj _ _)⟩
 obtain ⟨i, rfl, hi, HO, Hz, HB⟩ := eT;have iA := zh (show Below w.heap.size w wr from zA eA.out HB.out);have mV := zh (eB.out.below HB.out)
 by_cases hin : i < 8
 ·
  have i1 : (i : Int) < 8 := by omega
  have mS := zh (HV.out wr (Hr.out.below iA.out));have hL := HL.out i hin;have rY : s.v i = .slice (s.a i) (s.n i) (s.c i) := rfl;have iX := zh (fun w2 (hb : Below wr.heap.size wr w2) => (Hr.out i hin).below (zA iA.out hb));rw [rY, hL] at iX;have W6 := zh rY;have Bl := zh hL;clear rY hL;obtain ⟨c0, c1, c2, c3, c4, c5, c6, c7, c8, c9⟩ := mV.out.q;have cF := mV.out.f
  cases vb
  ·
   have PK : i = 0 := by
    rcases Hz.out with h | h
    ·
     exact h
    cases h
   subst PK;have HF := zh (Ed.out rfl);clear Ed jS;go_wp2_with fail;refine mS.out.mono ?_; rintro e w2 ⟨rfl, ez⟩;have fW := zh (zH HO.out ez);have eN := zh (zA iA.out ez);have BR := zh (Cz.out _ (cat f 0) w2 (fc.rd fW.out) (by simp [cat]));clear c0 c1 c2 c3 c4 c5 c6 c7 c8 c9 cF ez;go_wp2_with fail;refine BR.out.mono ?_; rintro e w3 ⟨v3, rfl, d_, eU⟩;have lz := zh (World.ownsRow.mono d_ eN.out.size);have fS := zh (zA eN.out eU);clear d_ eU;go_wp2_with fail;go_ret;exact ⟨_, rfl, by rw [HF.out]; exact lz.out, fS.out⟩
  go_wp2_with fail;refine mS.out.mono ?_; rintro e w2 ⟨rfl, ez⟩;have fW := zh (zH HO.out ez);have eN := zh (zA iA.out ez);have Lr := zh (zA HB.out ez);have fQ := zh (mV.out.below ez);have fU := zh (tK (iX.out w2 ez));have c1 := fQ.out.c i hin;rw [W6.out, Bl.out] at c1;have hm := Lp.out (i + 1) (by omega);rw [HC.out i] at hm;have D7 := zh (HE.out i);have jm := zh (zn (f i));have hsz := Lr.out.size;clear c0 c2 c3 c4 c5 c6 c7 c8 c9 ez mS iX W6 Bl;go_wp2_with (at_builtin; refine zd (n := (cat f i).length) (m := (f i).length) rfl (.tmp 13) (.tmp 17) 33 rfl yE W0.heap.size rfl fW.out rfl fU.out jm.out (by unfold maxLen; omega) (by omega) hsz ?_; intro v4 w4 eZ gF C5; clear C5; have iy := zh (show fc w4 W0.heap.size v4 (cat f (i + 1)) from yI eZ (by rw [D7.out, zu])); have fM := zh (zM Lr.out fW.out hsz gF); clear eZ gF)
  exact ⟨⟨i + 1, by go_num, by omega, iy, zh (.inr trivial), fM⟩, by simp [intOf]; omega⟩
 obtain rfl : i = 8 := by omega
 have hv : vb = true := by
  rcases Hz.out with h | h
  ·
   cases h
  exact h
 subst hv;have HF := zh (jS.out rfl);clear Ed jS;have BR := zh (Cz.out _ (cat f 8) wr (fc.rd HO.out) (ak (Lp.out 8 (ai _)) (by decide)));go_wp2_with fail;refine BR.out.mono ?_; rintro e w3 ⟨v3, rfl, d_, eU⟩;have lz := zh (World.ownsRow.mono d_ iA.out.size);have fS := zh (zA iA.out eU);clear d_ eU;go_wp2_with fail;go_ret;exact ⟨_, rfl, by rw [HF.out]; exact lz.out, fS.out⟩
theorem zGm (s : Sl) (M : Mp) (w : World) (h : fp w s M.st) (hs : ∀ i, i < 8 → (M.st i).length ≤ 10000) :
  Calls Tryz.prog 120 #[yA s M.live M.dR] w fun e w' => e = .returned (.int .i64 ((zI M).length : Int)) ∧ Below w.heap.size w w' := by
 have eA := zh (zP w s M.live M.dR 111);have HI := zh (wy s M _ (h.below eA.out) hs);generalize zI M = I at *;clear h hs;obtain ⟨f, L, G⟩ := M;dsimp only at *
 go_enter Tryz.func120, Tryz.ntmps120
 go_wp2_with fail;refine HI.out.mono ?_; rintro e w1 ⟨v1, rfl, eM, dW⟩;have eO := zh (zA eA.out dW);obtain ⟨a, c, hv, _⟩ := zO eM;subst hv;clear eM dW;go_wp2_with fail;go_ret;exact ⟨rfl, eO.out⟩
theorem W7 (s : Sl) (M : Mp) (key : Int) (w : World) (h : fp w s M.st) (hs : ∀ i, i < 8 → (M.st i).length ≤ 10000) :
  Calls Tryz.prog 124 #[yA s M.live M.dR, .int .u64 key] w fun e w' => e = .returned (.tuple #[jB ((ze M key).getD fF), .bool (ze M key).isSome]) ∧ Below w.heap.size w w' := by
 have HI := zh (fun W h => wy s M W h hs);have GU := zh (gx.new (w.alloc (.cells (yN s M.live M.dR) 111)) fF);rw [show (w.alloc (.cells (yN s M.live M.dR) 111)).heap.size = w.heap.size + 1 by simp] at GU;have eA := zh (zA (zP w s M.live M.dR 111) (z8 (w.alloc (.cells (yN s M.live M.dR) 111)) fF));have HF := zh (fun v W h => zHU v (zI M) key W h (ak (wK hs) (by decide)));rw [vO] at HF;have Hr := zh h;clear h hs;generalize ze M key = o at *;generalize zI M = I at *;obtain ⟨f, L, G⟩ := M;dsimp only at *
 go_enter Tryz.func124, Tryz.ntmps124
 go_wp2_with fail;refine (HI.out _ (Hr.out.below eA.out)).mono ?_; rintro e w1 ⟨v1, rfl, eM, dW⟩;have eO := zh (zA eA.out dW);have JE := zh (GU.out.below dW);have Pv := zh (HF.out _ w1 (fc.rd eM));clear dW eM eA GU;go_wp2_with fail;refine Pv.out.mono ?_; rintro e w3 ⟨rfl, eU⟩;have GV := zh (JE.out.below eU);have fS := zh (zA eO.out eU);clear eU;obtain ⟨d0, d1, d2, d3⟩ := GV.out.t.q;have dF := GV.out.f;obtain ⟨y, hy⟩ : ∃ y, o.getD fF = y := ⟨_, rfl⟩
 have Hy := zh hy;rw [hy];clear hy;go_wp2_with fail;change bodyPost _ _ _ _ _ (EI w3 (w.heap.size + 1) y);have hby := GV.out.put y;have ea := zh (uf fS.out (Nat.le_succ _) y);generalize EI w3 (w.heap.size + 1) y = V at *;obtain ⟨y0, y1, y2, y3⟩ := hby.t.q;exact aw (v := .tuple #[jB y, .bool o.isSome]) (by simp [results, Tryz.results124, go_sem, y0, y1, y2, y3]) rfl ⟨by rw [Hy.out], ea.out⟩
end Go.Proofs.YtcgfilmmokmdjaaGreat
