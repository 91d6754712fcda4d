/- A part of the walk. -/
import Derived.Test.YtcgfilmmokmdjaaGreatGv
import Derived.Test.YtcgfilmmokmdjaaGreatQAE
import Derived.Test.YtcgfilmmokmdjaaGreatQAI
import Derived.Test.YtcgfilmmokmdjaaGreatQAA
import Derived.Deep.Cut
import Derived.RegionTactic
import Derived.Deep.RegionLaw
import Derived.Test.YtcgfilmmokmdjaaGreatQAG
set_option linter.all false
set_option maxRecDepth 100000
set_option maxHeartbeats 32000000
namespace Go.Proofs.YtcgfilmmokmdjaaGreat
open Go.RowKit
def fresh (num : Int) : Gn := ⟨num, 0, 1, 16, fun _ => [], 0, 0⟩
theorem zAE (w : World) : RdM w Sl.nil (fun _ => []) := fun _ _ => RdS.nil 4 itC w
theorem kH (num : Int) : yX (fresh num).m = true := by
 rw [zM];exact ⟨fun _ _ => rfl, fun _ _ x hx => (by cases hx), rfl, Int.le_refl _, by show (0 : Int) ≤ 1099511627776; decide⟩
theorem kG (num : Int) : VldG (fresh num) ↔ 1 ≤ num ∧ num ≤ 8 := by
 constructor
 ·
  intro h; exact h.num
 intro h;refine ⟨h, ⟨Int.le_refl _, by show (0 : Int) ≤ _; decide⟩, ?_, ?_, kH num, rfl, rfl⟩
 ·
  show (1 : Int) ≤ 1 ∧ (1 : Int) ≤ 3; decide
 show (16 : Int) ≤ 16 ∧ (16 : Int) ≤ 1048576 ∧ (16 : Int) % 8 = 0; decide
theorem zG6 (num : Int) (hn : 1 ≤ num ∧ num ≤ 8) (w : World) : Calls Tryz.prog 60 #[.int .i64 num] w fun e w' => e = .returned (.tuple #[ze num 0 1 16 Sl.nil 0 0, .int .i64 0]) ∧ Below w.heap.size w w' := by
 have HV := zh (fun W => ub (fresh num) Sl.nil W (zAE W) (fun _ _ => Nat.zero_le _));rw [(yD _).2 ((kG num).2 hn)] at HV;dsimp only [fresh] at HV;have HN := zh (fun W => zJg W);have HB := zh (zZ w 0 0 0 0 Sl.nil 0 0 38);have HR := zh (BoxG.new w 0 0 0 0 Sl.nil 0 0 38);clear hn;generalize hnil : Sl.nil = s0 at *;have HNil := zh hnil;clear hnil
 go_enter Tryz.func60, Tryz.ntmps60
 go_wp2_with fail;refine (HN.out _).mono ?_;rintro e w1 ⟨rfl, hb1⟩;obtain ⟨W0, hW0⟩ : ∃ W0, w.alloc (.cells (zX 0 0 0 0 s0 0 0) 38) = W0 := ⟨_, rfl⟩
 have hb1' : Below (w.alloc (.cells (zX 0 0 0 0 s0 0 0) 38)).heap.size (w.alloc (.cells (zX 0 0 0 0 s0 0 0) 38)) w1 := by
  rw [← HNil.out]; exact hb1
 rw [hW0] at hb1' HB HR;have HB1 := zh (zA HB.out hb1');have HR1 := zh (HR.out.below hb1');clear hb1 hb1' HB HR hW0;have hlR := HR1.out.lt;generalize hb0 : w.heap.size = b0 at *;have E0 := zh hb0;clear hb0;go_upto_region 2 with fail;obtain ⟨W, hW⟩ : ∃ W, w1.alloc (.cells (zX num 0 1 16 s0 0 0) 38) = W := ⟨_, rfl⟩
 have HX := zh (BoxG.new w1 num 0 1 16 s0 0 0 38);have HBx := zh (zZ w1 num 0 1 16 s0 0 0 38);change Code.wp _ _ _ _ (w1.alloc (.cells (zX num 0 1 16 s0 0 0) 38));rw [hW] at HX HBx ⊢;clear hW;have HR2 := zh (HR1.out.below HBx.out);have HB2 := zh (bup HB1.out (Nat.le_of_lt hlR) HBx.out);have hlX := HX.out.lt;obtain ⟨m0, m1, m2, m3, m4, m5, m6, m7, m8, m9, m10, m11, m12, m13⟩ := HX.out.q;go_wp2_with fail;refine (HV.out _).mono ?_;rintro e w2 ⟨rfl, hb2⟩;clear m0 m1 m2 m3 m4 m5 m6 m7 m8 m9 m10 m11 m12 m13;have HX3 := zh (HX.out.below hb2);have HR3 := zh (HR2.out.below hb2);have HB3 := zh (bup HB2.out (Nat.le_of_lt HR2.out.lt) hb2);have hlR3 := HR3.out.lt;have hlX3 := HX3.out.lt;have hne : b0 ≠ w1.heap.size := by omega
 clear hb2 HX HR2 HB2 HV HN HR1 HB1 HBx hlX;generalize w1.heap.size = b1 at *;obtain ⟨m0, m1, m2, m3, m4, m5, m6, m7, m8, m9, m10, m11, m12, m13⟩ := HX3.out.q;obtain ⟨d0, d1, d2, d3, d4, d5, d6, d7, d8, d9, d10, d11, d12, d13⟩ := HR3.out.q;have F := HR3.out.f;go_wp2_with fail;change bodyPost _ _ _ _ _ (pts w2 b0 (zO num 0 1 16 s0 0 0));have hby := HR3.out.all num 0 1 16 s0 0 0;have HBz := zh (zD (B := b0) (Nat.le_refl _) (zO num 0 1 16 s0 0 0) HB3.out);generalize pts w2 b0 (zO num 0 1 16 s0 0 0) = V at *;exact bodyPost_ret (v := .tuple #[ze num 0 1 16 s0 0 0, .int .i64 0]) (by simp [results, Tryz.results60, go_sem, hby.n0, hby.n1, hby.n2, hby.n3, hby.c0, hby.c1, hby.c2, hby.c3, hby.c4, hby.c5, hby.c6, hby.c7, hby.cl, hby.cg]) rfl ⟨rfl, by rw [E0.out]; exact HBz.out⟩
end Go.Proofs.YtcgfilmmokmdjaaGreat
namespace Go.Proofs.YtcgfilmmokmdjaaGreat
instance : Inhabited Mp := ⟨⟨fun _ => [], 0, 0⟩⟩
def gn0 : Gn := ⟨0, 0, 0, 0, default⟩
instance : Inhabited Gn := ⟨gn0⟩
def gat (l : List Gn) (i : Nat) : Gn := l.getD i gn0
structure Slt where
 id : Int
 lim : Int
 ro : Bool
 gens : List Gn
def okG (s : Slt) (i : Nat) : Prop :=
 wJ (gat s.gens i) = true ∧ (0 < i → (gat s.gens (i - 1)).num < (gat s.gens i).num) ∧ ((gat s.gens i).mode = 1 ↔ i + 1 = s.gens.length) ∧ (gat s.gens i).size ≤ 2 * s.lim
structure VldSl (s : Slt) : Prop where
 id : 0 ≤ s.id ∧ s.id < 4
 lim : 4136 ≤ s.lim ∧ s.lim ≤ 262144
 len : 1 ≤ s.gens.length ∧ s.gens.length ≤ 8
 g : ∀ i, i < s.gens.length → okG s i
 top : (gat s.gens (s.gens.length - 1)).size + (((zG (gat s.gens (s.gens.length - 1)).m).length * 24 : Nat) : Int) ≤ 2 * s.lim
open Classical in
noncomputable def zg (s : Slt) : Bool := decide (VldSl s)
theorem zT (s : Slt) : zg s = true ↔ VldSl s := by unfold zg; simp
theorem th {s : Slt} (h : ¬ VldSl s) : zg s = false := by unfold zg; simp [h]
theorem VldSl.vg {s : Slt} (h : VldSl s) {i : Nat} (hi : i < s.gens.length) : VldG (gat s.gens i) := (yD _).1 (h.g i hi).1
theorem zB2 {s : Slt} {i : Nat} (hi : i < s.gens.length) (h : ¬ okG s i) : zg s = false := th fun hv => h (hv.g i hi)
structure Fnd where
 gen : Int
 mode : Int
 rev : Int
 it : It
 at_ : Nat
def xb (l : List Gn) (key : Int) : Nat → List Fnd
 | 0 => []
 | n + 1 => (match zW (gat l n).m key with | some x => [⟨(gat l n).num, (gat l n).mode, (gat l n).rev, x, n⟩] | none => []) ++ xb l key n
noncomputable def yI (s : Slt) (key : Int) : List Fnd := if zg s = true then xb s.gens key s.gens.length else []
end Go.Proofs.YtcgfilmmokmdjaaGreat
namespace Go.Proofs.YtcgfilmmokmdjaaGreat
open Go.RowKit
def itA (g : Gn) (x : Nd) : It := ⟨(x.key : Int), (x.ck : Int), g.size, (x.data.length : Int)⟩
def yM (g : Gn) (x : Nd) : Gn := { g with m := if x.del then yh (yF g.m x.key) (szN x.data.length : Nat) else wB g.m (itA g x), size := g.size + (szN x.data.length : Nat) }
def zV (g : Gn) (l : List Nd) : Gn := l.foldl yM g
def szL (l : List Nd) : Nat := (l.map fun x => szN x.data.length).sum
instance (x : Nd) : Decidable x.ok := by unfold Nd.ok; infer_instance
def zAB (l : List Nd) : Bool := l.all fun x => decide x.ok
def xM (g : Gn) (l : List Nd) : Int × Gn := if wJ g = true ∧ zAB l = true then (if g.mode = 1 then (if g.size + (szL l : Int) ≤ 1048576 then (0, zV g l) else (9, gn0)) else (12, gn0)) else (1, gn0)
def yW (g : Gn) (l : List Int) : Int × Gn := if wJ g = true then (if g.mode = 1 then (12, gn0) else (0, { g with m := l.foldl yF g.m })) else (1, gn0)
def wO (g : Gn) (frm : Int) : Int × Gn := if wJ g = true then (if g.mode = frm then (0, { g with mode := frm + 1 }) else (12, gn0)) else (1, gn0)
def zJ3 (w0 : World) (p : Int × Gn) (e : Ending) (w' : World) : Prop := (∃ s, e = .returned (.tuple #[ze p.2.num p.2.rev p.2.mode p.2.size s p.2.m.live p.2.m.garb, .int .i64 p.1]) ∧ OwnM w' w0.heap.size s p.2.m.st) ∧ Below w0.heap.size w0 w'
theorem uk (M : Mp) : yh M 0 = M := by
 unfold yh
 split
 ·
  rw [Int.add_zero]
 rfl
theorem zFn : szL [] = 0 := rfl
theorem wG (x : Nd) (l : List Nd) : szL (x :: l) = szN x.data.length + szL l := by simp [szL]
theorem k8 (g : Gn) (l : List Nd) (x : Nd) : zV g (l ++ [x]) = yM (zV g l) x := by simp [zV]
theorem zL2 (l : List Nd) (x : Nd) : szL (l ++ [x]) = szL l + szN x.data.length := by simp [szL]
theorem vk (g : Gn) (x : Nd) : (yM g x).size = g.size + (szN x.data.length : Nat) := rfl
theorem wk (g : Gn) : ∀ l, (zV g l).size = g.size + (szL l : Nat)
 | [] => by simp [zV, szL]
 | x :: r => by
  have := wk (yM g x) r;rw [vk] at this
  show (zV (yM g x) r).size = _
  rw [this, wG]; omega
theorem zAT (g : Gn) (x : Nd) : (yM g x).num = g.num ∧ (yM g x).rev = g.rev ∧ (yM g x).mode = g.mode := ⟨rfl, rfl, rfl⟩
theorem qD : ∀ (l : List Nd) (g : Gn), (zV g l).num = g.num ∧ (zV g l).rev = g.rev ∧ (zV g l).mode = g.mode
 | [], _ => ⟨rfl, rfl, rfl⟩
 | x :: r, g => by
  have := qD r (yM g x);exact this
theorem zG5 (M : Mp) (x : It) {n : Nat} (h : ∀ i, i < 8 → (M.st i).length ≤ n) : ∀ i, i < 8 → ((wB M x).st i).length ≤ n + 1 := fun i hi => by
 unfold wB
 split
 ·
  show (if i = zb x.key then ins (M.st i) x else M.st i).length ≤ n + 1
  have h1 := vJ x (M.st i);have h2 := h i hi
  split <;> omega
 have h2 := h i hi; omega
theorem tV (M : Mp) (k : Int) {n : Nat} (h : ∀ i, i < 8 → (M.st i).length ≤ n) : ∀ i, i < 8 → ((yF M k).st i).length ≤ n := fun i hi => by
 unfold yF
 split
 ·
  exact h i hi
 split
 ·
  show (if i = zb k then drp (M.st i) k else M.st i).length ≤ n
  have h1 := uI (M.st i) k;have h2 := h i hi
  split <;> omega
 exact h i hi
theorem vw (M : Mp) (z : Int) : (yh M z).st = M.st := by unfold yh; split <;> rfl
theorem zEb (g : Gn) (x : Nd) {n : Nat} (h : ∀ i, i < 8 → (g.m.st i).length ≤ n) : ∀ i, i < 8 → ((yM g x).m.st i).length ≤ n + 1 := fun i hi => by
 unfold yM;dsimp only
 split
 ·
  rw [vw];exact Nat.le_succ_of_le (tV _ _ h i hi)
 exact zG5 _ _ h i hi
theorem xx : ∀ (l : List Nd) (g : Gn) {n : Nat}, (∀ i, i < 8 → (g.m.st i).length ≤ n) → ∀ i, i < 8 → ((zV g l).m.st i).length ≤ n + l.length
 | [], _, _, h => h
 | x :: r, g, n, h => fun i hi => by
  have := xx r (yM g x) (zEb g x h) i hi;rw [List.length_cons];exact Nat.le_trans this (by omega)
theorem xu : ∀ (l : List Int) (M : Mp) {n : Nat}, (∀ i, i < 8 → (M.st i).length ≤ n) → ∀ i, i < 8 → ((l.foldl yF M).st i).length ≤ n
 | [], _, _, h => h
 | x :: r, M, _, h => xu r (yF M x) (tV M x h)
abbrev ndV (x : Nd) (v : Value) : Value := .agg #[.int .u64 (x.key : Int), .int .u32 (x.ck : Int), .bool x.del, v]
theorem zFf (w : World) : RdB w (.slice none 0 0) [] := qZ (World.ownsRow_nil w 0 5 1)
def vh (p : Nd × Value) : List Value := [.int .u64 (p.1.key : Int), .int .u32 (p.1.ck : Int), .bool p.1.del, p.2]
theorem zG8 (p : Nd × Value) : (vh p).length = 4 := rfl
def wL (es : List (Nd × Value)) : List Value := es.flatMap vh
theorem wT (es : List (Nd × Value)) : (wL es).length = es.length * 4 := yK 4 vh es fun x _ => zG8 x
theorem zKb : xe Tryz.prog 23 56 4 40 := by
 obtain ⟨i, hi, hz, hs, hb⟩ := info_parts (P := Tryz.prog) (e := 56) (z := .agg #[.int .u64 0, .int .u32 0, .bool false, .slice none 0 0]) (size := 4) (bytes := 40) (by kernel_rfl);exact ⟨Tryz.underlying23, by decide, i, _, hi, hz, hs, hb, rfl⟩
structure RdN (w : World) (v : Value) (es : List (Nd × Value)) : Prop where
 row : Rd w 4 v es.length (wL es)
 dat : ∀ p ∈ es, RdB w p.2 p.1.data
theorem RdN.below {w w' : World} {v : Value} {es : List (Nd × Value)} (h : RdN w v es) (hb : Below w.heap.size w w') : RdN w' v es := ⟨h.row.below hb, fun p hp => RdL.below (h.dat p hp) hb⟩
def yZ (es : List (Nd × Value)) (j : Nat) : Nd × Value := es.getD j (nd0, .slice none 0 0)
theorem vH {es : List (Nd × Value)} {j : Nat} (h : j < es.length) : yZ es j ∈ es := by
 unfold yZ; rw [List.getD_eq_getElem?_getD, List.getElem?_eq_getElem h]; exact List.getElem_mem h
theorem RdN.shape {w : World} {v : Value} {es : List (Nd × Value)} (h : RdN w v es) : ∃ a cap, v = .slice a es.length cap ∧ es.length ≤ cap ∧ cap ≤ maxLen := by
 obtain ⟨_, a, cap, h1, h2, h3, _⟩ := h.row;exact ⟨a, cap, h1, h2, h3⟩
theorem RdN.at {w : World} {a : Option Addr} {n cap : Nat} {es : List (Nd × Value)} (h : RdN w (.slice a n cap) es) {j : Nat} (hj : j < n) : ∃ b off, a = some ⟨b, off, none⟩ ∧ RdB w (yZ es j).2 (yZ es j).1.data ∧
  w.cell? ⟨b, off + j * 4, none⟩ = some (.int .u64 ((yZ es j).1.key : Int)) ∧ w.cell? ⟨b, off + j * 4 + 1, none⟩ = some (.int .u32 ((yZ es j).1.ck : Int)) ∧
  w.cell? ⟨b, off + j * 4 + 2, none⟩ = some (.bool (yZ es j).1.del) ∧ w.cell? ⟨b, off + j * 4 + 3, none⟩ = some (yZ es j).2 := by
 have hn : n = es.length := by
  obtain ⟨_, _, _, e, _⟩ := h.row;injection e
 subst hn;obtain ⟨_, a', cap', e, _, _, _, hc⟩ := h.row;injection e with e1;obtain ⟨b, off, e2, hc⟩ := hc (by rw [wT]; omega);refine ⟨b, off, e1.trans e2, h.dat _ (vH hj), ?_⟩
 have hat : ∀ i, i < 4 → ∀ u, (vh (yZ es j))[i]? = some u → w.cell? ⟨b, off + (j * 4 + i), none⟩ = some u := fun i hi u hu => hc (j * 4 + i) u (by
  rw [show wL es = es.flatMap vh from rfl, ua 4 vh (nd0, .slice none 0 0) es (fun _ _ => rfl) j i hj hi]; exact hu)
 exact ⟨hat 0 (by omega) _ rfl, hat 1 (by omega) _ rfl, hat 2 (by omega) _ rfl, hat 3 (by omega) _ rfl⟩
structure BoxD (W : World) (b : Nat) (x : Nd) (v : Value) : Prop where
 c0 : W.cell? ⟨b, 0, none⟩ = some (.int .u64 (x.key : Int))
 c1 : W.cell? ⟨b, 1, none⟩ = some (.int .u32 (x.ck : Int))
 c2 : W.cell? ⟨b, 2, none⟩ = some (.bool x.del)
 c3 : W.cell? ⟨b, 3, none⟩ = some v
 f : ∀ i, W.frozen? ⟨b, i, none⟩ = false
theorem BoxD.q {W : World} {b : Nat} {x : Nd} {v : Value} (h : BoxD W b x v) : W.cell? ⟨b, 0, none⟩ = some (.int .u64 (x.key : Int)) ∧ W.cell? ⟨b, 1, none⟩ = some (.int .u32 (x.ck : Int)) ∧ W.cell? ⟨b, 2, none⟩ = some (.bool x.del) ∧ W.cell? ⟨b, 3, none⟩ = some v := ⟨h.c0, h.c1, h.c2, h.c3⟩
abbrev ndC (x : Nd) (v : Value) : Array Value := #[.int .u64 (x.key : Int), .int .u32 (x.ck : Int), .bool x.del, v]
theorem BoxD.new (W : World) (x : Nd) (v : Value) : BoxD (W.alloc (.cells (ndC x v) 56)) W.heap.size x v := ⟨by simp, by simp, by simp, by simp, fun i => by simp⟩
theorem ut (w : World) (x : Nd) (v : Value) : Below w.heap.size w (w.alloc (.cells (ndC x v) 56)) := (Below.refl _ _).alloc (Nat.le_refl _) _
theorem zCV (x : Nd) (a : Option Addr) (cap : Nat) (w : World) : Calls Tryz.prog 80 #[ndV x (.slice a x.data.length cap)] w fun e w' => e = .returned (.bool (decide x.ok)) ∧ Below w.heap.size w w' := by
 obtain ⟨k, c, d, l⟩ := x;dsimp only;have HB := zh (show Below w.heap.size w (w.alloc (.cells #[.int .u64 (k : Int), .int .u32 (c : Int), .bool d, .slice a l.length cap] 56)) from (Below.refl _ _).alloc (Nat.le_refl _) _)
 have HO := zh (show decide (Nd.ok ⟨k, c, d, l⟩) = (decide ((l.length : Int) ≤ 4096) && !(d && decide (0 < (l.length : Int)))) by
  unfold Nd.ok
  dsimp only
  have e : (l = []) ↔ ¬ 0 < l.length := by rw [← List.length_eq_zero_iff]; omega
  cases d
  ·
   simp only [Bool.false_and, Bool.not_false, Bool.and_true, reduceCtorEq, false_imp_iff, and_true]
   exact decide_eq_decide.2 (by omega)
  simp only [Bool.true_and, forall_const, e]
  rw [Bool.eq_iff_iff, decide_eq_true_eq, Bool.and_eq_true, decide_eq_true_eq, Bool.not_eq_true', decide_eq_false_iff_not]
  omega)
 generalize decide (Nd.ok ⟨k, c, d, l⟩) = ob at *;generalize l.length = n at *
 go_enter Tryz.func80, Tryz.ntmps80
 by_cases h1 : (n : Int) ≤ 4096
 ·
  have d1 : decide ((n : Int) ≤ 4096) = true := decide_eq_true h1
  cases d
  ·
   go_wp2_with fail;go_ret;exact ⟨zE (by rw [HO.out, d1]; rfl), HB.out⟩
  by_cases h2 : 0 < (n : Int)
  ·
   have d2 : decide (0 < (n : Int)) = true := decide_eq_true h2;go_wp2_with fail;go_ret;have h3 : 0 < n := by omega
   exact ⟨zE (by rw [HO.out, d1, d2]; simp [h3]), HB.out⟩
  have d2 : decide (0 < (n : Int)) = false := decide_eq_false h2;go_wp2_with fail;go_ret;have h3 : ¬ 0 < n := by omega
  exact ⟨zE (by rw [HO.out, d1, d2]; simp [h3]), HB.out⟩
 have d1 : decide ((n : Int) ≤ 4096) = false := decide_eq_false h1;go_wp2_with fail;go_ret;exact ⟨zE (by rw [HO.out, d1]; rfl), HB.out⟩
/-! ### From -/
def vt (T : List It) (j : Nat) (i : Nat) : List It := inS i (T.take j)
theorem zHT {T : List It} {j : Nat} (h : j < T.length) : vt T (j + 1) (zb (iat T j).key) = vt T j (zb (iat T j).key) ++ [iat T j] := by
 unfold vt inS;rw [yj h, List.filter_append];simp
theorem zJ6 {T : List It} {j i : Nat} (h : j < T.length) (hi : i ≠ zb (iat T j).key) : vt T (j + 1) i = vt T j i := by
 unfold vt inS;rw [yj h, List.filter_append];simp [Ne.symm hi]
theorem zHH {T : List It} {j : Nat} (h : j < T.length) : vt T (j + 1) = fun i => if i = zb (iat T j).key then vt T j (zb (iat T j).key) ++ [iat T j] else vt T j i := funext fun i => by
 by_cases e : i = zb (iat T j).key
 ·
  rw [if_pos e, e, zHT h]
 rw [if_neg e, zJ6 h e]
theorem zIq (T : List It) (j i : Nat) : (vt T j i).length ≤ j := by
 unfold vt;exact Nat.le_trans (zJV _ _) (by rw [List.length_take]; omega)
theorem zGD (T : List It) : vt T 0 = fun _ => [] := funext fun _ => rfl
theorem zJL (T : List It) : vt T T.length = fun i => inS i T := funext fun i => by unfold vt; rw [List.take_length]
theorem k7 (x : It) (w : World) : Calls Tryz.prog 127 #[.agg #[.int .u64 x.key, .int .u32 x.ck, .int .i64 x.off, .int .i64 x.size]] w fun e w' => e = .returned (.bool (okB x)) ∧ Below w.heap.size w w' := ke x.key x.ck x.off x.size w
theorem zAz (v : Value) (l : List It) (g : Int) (w : World) (h : RdT w v l) (hs : l.length ≤ 80000) :
  Calls Tryz.prog 125 #[v, .int .i64 g] w fun e w' => (∃ s', e = .returned (yC s' (uh l g).live (uh l g).garb) ∧ OwnM w' w.heap.size s' (uh l g).st) ∧ Below w.heap.size w w' := by
 have Hr := zh h;have HSo := zh (fun v W h => tS v l W h (Nat.le_trans hs (by decide)));have HBy := zh (fun (ho : l.all okB = true) v W h => kr v (srt l) W h (fun x hx => (zGA (zJb ho) x hx).2.2.2.1) (Nat.le_trans (yN l) (Nat.le_trans hs (by decide))));have HBx := zh (BoxM.new w Sl.nil 0 0 111);have HB0 := zh (zR w Sl.nil 0 0 111);have HNo := zh (fun h => zJB (l := l) (g := g) h);have HYes := zh (fun h h0 h1 => zAt (l := l) (g := g) h h0 h1);have HAt := zh (show (∀ j, j < l.length → _) → _ from qX (l := l) (p := okB));have HAf := zh (show ∀ j, j < l.length → _ → _ from fun j => tM (l := l) (p := okB) (j := j));have hl := yN l;have hsb := tI (srt l);have hsb2 : zq (srt l) ≤ 80000 * 4127 := Nat.le_trans hsb (Nat.mul_le_mul_right _ (Nat.le_trans hl hs));clear h hsb;generalize uh l g = FM at *;generalize l.all okB = ob at *;generalize srt l = T at *
 obtain ⟨a, cap, rfl, h1, h2⟩ := Hr.out.shape;generalize hn : l.length = n at *;clear hn
 go_enter Tryz.func125, Tryz.ntmps125
 go_upto_region 1 with fail;obtain ⟨W0, hW0⟩ : ∃ W0, w.alloc (.cells (yQ Sl.nil 0 0) 111) = W0 := ⟨_, rfl⟩
 rw [hW0] at HBx HB0;rw [show w.alloc (.cells #[.slice none 0 0, .slice none 0 0, .slice none 0 0, .slice none 0 0, .slice none 0 0, .slice none 0 0, .slice none 0 0, .slice none 0 0, .int .i64 0, .int .i64 0] 111) = W0 from hW0];clear hW0;go_wp2_with fail
 go_loopw [5] (fun iv W => ∃ i : Nat, iv = .int .i64 (i : Int) ∧ i ≤ n ∧ Hid (∀ r, r < i → okB (iat l r) = true) ∧ Hid (Below W0.heap.size W0 W)) (fun iv _ => n - (intOf iv).toNat)
 case atStart => exact ⟨0, rfl, Nat.zero_le _, zh (fun r hr => by omega), zh (Below.refl _ _)⟩
 obtain ⟨i, rfl, hi, Hok, HB⟩ := hrel
 by_cases hin : i < n
 ·
  have ii1 : (i : Int) < (n : Int) := by omega
  obtain ⟨pb, poff, e, k0, k1, k2, k3⟩ := (Hr.out.below (zA HB0.out HB.out)).at hin;subst e;have HAi := zh (HAf.out i hin)
  have HOi := zh (fun (hx : okB (iat l i) = true) r (hr : r < i + 1) => show okB (iat l r) = true from by
   by_cases e : r = i
   ·
    rw [e]; exact hx
   exact Hok.out r (by omega))
  generalize iat l i = x at *;have HV := zh (fun W => k7 x W)
  cases hx : okB x
  ·
   rw [hx] at HV;have HF := zh (HNo.out (fun h => by rw [HAi.out hx] at h; cases h.1));clear hx HAi HOi HNo HYes;go_wp2_with fail;refine (HV.out _).mono ?_; rintro e w1 ⟨rfl, hb1⟩;have HXz := zh (HBx.out.below (zA HB.out hb1));have HBz := zh (zA HB0.out (zA HB.out hb1));clear hb1 k0 k1 k2 k3;obtain ⟨c0, c1, c2, c3, c4, c5, c6, c7, c8, c9⟩ := HXz.out.q;have cF := HXz.out.f;go_wp2_with fail;change bodyPost _ _ _ _ _ (z8 w1 w.heap.size Sl.nil 0 0);have hby := HXz.out.all Sl.nil 0 0;have HBq := zh (zQ HBz.out (Nat.le_refl _) Sl.nil 0 0);generalize z8 w1 w.heap.size Sl.nil 0 0 = V9 at *;exact bodyPost_ret (v := yC Sl.nil 0 0) (by simp [results, Tryz.results125, go_sem, hby.c0, hby.c1, hby.c2, hby.c3, hby.c4, hby.c5, hby.c6, hby.c7, hby.cl, hby.cg]) rfl ⟨⟨Sl.nil, by rw [HF.out]; rfl, by rw [HF.out]; exact OwnM.nil _ _⟩, HBq.out⟩
  rw [hx] at HV;have HOk2 := zh (HOi.out hx);clear hx HAi HOi;go_wp2_with fail;refine (HV.out _).mono ?_; rintro e w1 ⟨rfl, hb1⟩;have HBz := zh (zA HB.out hb1);clear hb1 k0 k1 k2 k3;go_wp2_with fail;exact ⟨⟨i + 1, by go_num, by omega, HOk2, HBz⟩, by simp [intOf]; omega⟩
 have ii1 : ¬ (i : Int) < (n : Int) := by omega
 obtain rfl : i = n := by omega
 have hob : ob = true := HAt.out Hok.out;subst hob;have HX0 := zh (HBx.out.below HB.out);have HB1 := zh (zA HB0.out HB.out);clear HAt HAf Hok HBx HB0 HB
 by_cases hg : 0 ≤ g ∧ g ≤ 1099511627776
 ·
  obtain ⟨hg0, hg1⟩ := hg;have g1 : decide (g < 0) = false := by simp; omega
  have g2 : decide (1099511627776 < g) = false := by simp; omega
  have HFM := zh (HYes.out rfl hg0 hg1);have HBy1 := zh (HBy.out rfl);clear HNo HYes HBy;have HS1 := zh (HSo.out _ wr (Hr.out.below HB1.out));go_wp2_with fail;refine HS1.out.mono ?_; rintro e w2 ⟨v2, rfl, hown2, hb2⟩;have HX2 := zh (HX0.out.below hb2);have HB2 := zh (zA HB1.out hb2);have HR2 := zh (OwnT.rd hown2);have HBy2 := zh (HBy1.out _ w2 (OwnT.rd hown2));obtain ⟨ta, tc, rfl, ht1, ht2⟩ := HR2.out.shape;clear hown2 hb2 HX0 HB1 HS1;go_wp2_with fail;refine HBy2.out.mono ?_; rintro e w3 ⟨rfl, hb3⟩;have HX3 := zh (HX2.out.below hb3);have HB3 := zh (zA HB2.out hb3);have HR3 := zh (HR2.out.below hb3);clear hb3 HX2 HB2 HR2 HBy2;have HAs := zh (fun j (h : j < T.length) => zHH h);have HAl := zh (fun j i => zIq T j i);have HA0 := zh (zGD T);have HAz := zh (zJL T);generalize htn : T.length = tn at *;clear htn;generalize zq T = S at *;go_upto_region 10 with fail
  obtain ⟨W4, hW4⟩ : ∃ W4, w3.alloc (.cells (yQ Sl.nil (S : Int) g) 111) = W4 := ⟨_, rfl⟩
  have HY4 := zh (show BoxM W4 w3.heap.size Sl.nil (S : Int) g from hW4 ▸ BoxM.new w3 Sl.nil (S : Int) g 111);have HB4 := zh (show Below w3.heap.size w3 W4 from hW4 ▸ zR w3 Sl.nil (S : Int) g 111);have hm0 : w.heap.size < w3.heap.size := HX3.out.lt;have hm1 : w3.heap.size < W4.heap.size := HY4.out.lt;rw [show w3.alloc (.cells #[.slice none 0 0, .slice none 0 0, .slice none 0 0, .slice none 0 0, .slice none 0 0, .slice none 0 0, .slice none 0 0, .slice none 0 0, .int .i64 (S : Int), .int .i64 g] 111) = W4 from hW4];clear hW4;go_wp2_with fail
  go_loopw [7] (fun iv W => ∃ (j : Nat) (s : Sl), iv = .int .i64 (j : Int) ∧ j ≤ tn ∧ Hid (BoxM W w3.heap.size s (S : Int) g) ∧ Hid (OwnM W W4.heap.size s (vt T j)) ∧ Hid (ApM s) ∧ Hid (Below w3.heap.size w3 W) ∧ Hid (W4.heap.size ≤ W.heap.size)) (fun iv _ => tn - (intOf iv).toNat)
  case atStart => exact ⟨0, Sl.nil, rfl, Nat.zero_le _, HY4, zh (by rw [HA0.out]; exact OwnM.nil _ _), zh ApM.nil, HB4, zh (Nat.le_refl _)⟩
  obtain ⟨j, s, rfl, hj, HY, HO, HA, HB, HL⟩ := hrel
  by_cases hjt : j < tn
  ·
   have jj1 : (j : Int) < (tn : Int) := by omega
   obtain ⟨qb, qoff, e, q0, q1, q2, q3⟩ := (HR3.out.below HB.out).at hjt;subst e;have HAj := zh (HAs.out j hjt);have hk8 := wD (iat T j).key;have hal := HAl.out j (zb (iat T j).key);generalize iat T j = x at *;have HSt := zh (fun W => kq x.key W);generalize zb x.key = k at *;go_wp2_with fail;refine (HSt.out _).mono ?_; rintro e w8 ⟨rfl, rfl⟩;have ck := HY.out.c k hk8;rw [show s.v k = .slice (s.a k) (s.n k) (s.c k) from rfl] at ck;have HOk7 := zh (show wr.ownsRow W4.heap.size 49 4 (.slice (s.a k) (s.n k) (s.c k)) (vt T j k).length (zL (vt T j k)) from HO.out k hk8);have hbw := zh (show Below wr.heap.size wr (wr.alloc (yq x)).drew from zi (zu wr x));have HL8 := zh (Nat.le_trans HL.out hbw.out.size)
   have HSt8 := zh (fun w9 va n vc (hown : World.ownsRow w9 W4.heap.size 49 4 (.slice va n vc) n (zL (vt T j k ++ [x]))) hg hat => zI3 (w := (wr.alloc (yq x)).drew) (HX3.out.below (zA HB.out hbw.out)) (HY.out.below hbw.out) (HO.out.keep hbw.out) HA.out (T := []) (B2 := w3.heap.size + 1) (World.ownsRow_nil _ _ _ _) (zA HB.out hbw.out) (Nat.le_refl _) hm0 (Nat.lt_succ_self _) (Nat.succ_le_of_lt hm1) HL8.out (fun g hg => by cases hg) hk8 hown hg hat);have HYg := zh (fun W (hg : (wr.alloc (yq x)).drew.grownBy W (s.v k).ownBlock) => ((HY.out.below hbw.out).grown hg (uR (HO.out k hk8) hm1)));have HOne := zh (show ∀ u ∈ itC x, u.oneCell' = true from by have := zl [x]; rwa [yy] at this);have HCu := zh (show zL (vt T j k ++ [x]) = zL (vt T j k) ++ itC x by rw [zp, yy]);have ik8 : (k : Int) < 8 := by omega
   have hbm7 : w3.heap.size < wr.heap.size := HY.out.lt;go_wp2_with fail
   go_region_law ((refine zAo (by rfl) (.tmp 51) (.tmp 56) 33 (by rfl) yA W4.heap.size (by rfl) ((HOk7.out.alloc _).drew) (ad := ⟨wr.heap.size, 0, none⟩) (m := 1) (c := 1) (news := itC x) (by rfl) (by rfl) (zHZ wr x _ rfl) HOne.out (by unfold maxLen; omega) (by omega) HL8.out ?_; intro v2 w9 hown2 hgr2 hat2; obtain ⟨oa2, oc2, hv2, _, _, _⟩ := zJ hown2; subst hv2; have hy9 := HYg.out _ hgr2; have c2 := hy9.c k hk8; have f2 := hy9.f k; rw [show s.v k = .slice (s.a k) (s.n k) (s.c k) from rfl] at c2))
   all_goals
    obtain ⟨r1, r2, r3, r4, r5, r6⟩ := HSt8.out _ _ _ _ (by rw [HCu.out]; exact hown2) hgr2 hat2;have hsz9 : W4.heap.size ≤ w9.heap.size := Nat.le_trans HL8.out hgr2.size;clear c2 f2 hy9 hown2 hgr2 hat2 ck HSt8 HYg HOk7 r1 r5;have HR := zh (show _ ∧ _ ∧ _ ∧ _ from ⟨r2, r3, r4, r6⟩);clear r2 r3 r4 r6;go_wp2_with fail;obtain ⟨r2, r3, r4, r6⟩ := HR.out;exact ⟨⟨j + 1, s.set k oa2 ((vt T j k).length + 1) oc2, by go_num, by omega, zh r2, zh (by rw [HAj.out]; exact r3), zh r4, zh r6, zh (by simpa using hsz9)⟩, by simp [intOf]; omega⟩
  have jj1 : ¬ (j : Int) < (tn : Int) := by omega
  obtain rfl : j = tn := by omega
  have HXz := zh (HX3.out.below HB.out);have HBz := zh (zA HB3.out HB.out);obtain ⟨d0, d1, d2, d3, d4, d5, d6, d7, d8, d9⟩ := HY.out.q;have dF := HY.out.f;obtain ⟨c0, c1, c2, c3, c4, c5, c6, c7, c8, c9⟩ := HXz.out.q;have cF := HXz.out.f;go_wp2_with fail;change bodyPost _ _ _ _ _ (z8 wr w.heap.size s (S : Int) g);have hby := HXz.out.all s (S : Int) g;have HRq := zh ((HO.out.putM (b := w.heap.size) (by omega) s (S : Int) g).mono (show w.heap.size ≤ W4.heap.size by omega));have HBq := zh (zQ HBz.out (Nat.le_refl _) s (S : Int) g);generalize z8 wr w.heap.size s (S : Int) g = V9 at *;exact bodyPost_ret (v := yC s (S : Int) g) (by simp [results, Tryz.results125, go_sem, hby.c0, hby.c1, hby.c2, hby.c3, hby.c4, hby.c5, hby.c6, hby.c7, hby.cl, hby.cg]) rfl ⟨⟨s, by rw [HFM.out], by rw [HFM.out]; show OwnM _ _ _ (fun i => inS i T); rw [← HAz.out]; exact HRq.out⟩, HBq.out⟩
 have HF := zh (HNo.out (fun h => hg h.2));have hcs : g < 0 ∨ (0 ≤ g ∧ 1099511627776 < g) := by omega
 have HXz := HX0;have HBz := HB1;clear HNo HYes hg;rcases hcs with h0 | ⟨h0, h1'⟩
 ·
  have g1 : decide (g < 0) = true := by simp; omega
  obtain ⟨c0, c1, c2, c3, c4, c5, c6, c7, c8, c9⟩ := HXz.out.q;have cF := HXz.out.f;go_wp2_with fail;change bodyPost _ _ _ _ _ (z8 wr w.heap.size Sl.nil 0 0);have hby := HXz.out.all Sl.nil 0 0;have HBq := zh (zQ HBz.out (Nat.le_refl _) Sl.nil 0 0);generalize z8 wr w.heap.size Sl.nil 0 0 = V9 at *;exact bodyPost_ret (v := yC Sl.nil 0 0) (by simp [results, Tryz.results125, go_sem, hby.c0, hby.c1, hby.c2, hby.c3, hby.c4, hby.c5, hby.c6, hby.c7, hby.cl, hby.cg]) rfl ⟨⟨Sl.nil, by rw [HF.out]; rfl, by rw [HF.out]; exact OwnM.nil _ _⟩, HBq.out⟩
 have g1 : decide (g < 0) = false := by simp; omega
 have g2 : decide (1099511627776 < g) = true := by simp; omega
 obtain ⟨c0, c1, c2, c3, c4, c5, c6, c7, c8, c9⟩ := HXz.out.q;have cF := HXz.out.f;go_wp2_with fail;change bodyPost _ _ _ _ _ (z8 wr w.heap.size Sl.nil 0 0);have hby := HXz.out.all Sl.nil 0 0;have HBq := zh (zQ HBz.out (Nat.le_refl _) Sl.nil 0 0);generalize z8 wr w.heap.size Sl.nil 0 0 = V9 at *;exact bodyPost_ret (v := yC Sl.nil 0 0) (by simp [results, Tryz.results125, go_sem, hby.c0, hby.c1, hby.c2, hby.c3, hby.c4, hby.c5, hby.c6, hby.c7, hby.cl, hby.cg]) rfl ⟨⟨Sl.nil, by rw [HF.out]; rfl, by rw [HF.out]; exact OwnM.nil _ _⟩, HBq.out⟩
theorem wn (s : Sl) (M : Mp) (w : World) (h : RdM w s M.st) (hs : ∀ i, i < 8 → (M.st i).length ≤ 10000) :
  Calls Tryz.prog 123 #[yC s M.live M.garb] w fun e w' => ∃ v', e = .returned v' ∧ OwnT w' w.heap.size v' (zG M) ∧ Below w.heap.size w w' := by
 have HV := zh (fun W h => vT s M W h (fun i hi => Nat.le_trans (hs i hi) (by decide)));have HBx := zh (BoxM.new w s M.live M.garb 111);have HB0 := zh (zR w s M.live M.garb 111);have Hr := zh h;have HL := zh (fun i (hi : i < 8) => h.n hi);have HCl := zh (fun n (hn : n ≤ 8) => Nat.le_trans (t8 (M := M) (B := 10000) hs n hn) (Nat.mul_le_mul_right _ hn));have HSo := zh (fun v l W h (hl : l.length ≤ 1000000) => tS v l W h hl);have HC := zh (fun n => zCY M.st n);have HE := zh (fun i => show cat M.st (i + 1) = cat M.st i ++ M.st i from rfl);have HI1 := zh (show yX M = true → zG M = srt (cat M.st 8) from fun h => by unfold zG; rw [if_pos h]; rfl);have HI0 := zh (show yX M = false → zG M = [] from fun h => by unfold zG; rw [h]; rfl);clear h hs;generalize yX M = vb at *;generalize zG M = I at *;obtain ⟨f, L, G⟩ := M;dsimp only at *
 go_enter Tryz.func123, Tryz.ntmps123
 go_wp2_with fail;obtain ⟨W0, hW0⟩ : ∃ W0, w.alloc (.cells (yQ s L G) 111) = W0 := ⟨_, rfl⟩
 rw [hW0] at HBx HB0
 try rw [hW0]
 clear hW0
 go_loopw [3, 4] (fun ov iv W => ∃ i : Nat, iv = .int .i64 (i : Int) ∧ i ≤ 8 ∧ Hid (OwnT W W0.heap.size ov (cat f i)) ∧ Hid (i = 0 ∨ vb = true) ∧ Hid (Below W0.heap.size W0 W)) (fun _ iv _ => 8 - (intOf iv).toNat)
 case atStart => exact ⟨0, rfl, Nat.zero_le _, zh (World.ownsRow_nil _ _ _ _), zh (.inl rfl), zh (Below.refl _ _)⟩
 obtain ⟨i, rfl, hi, HO, Hz, HB⟩ := hrel;have HBi := zh (show Below w.heap.size w wr from zA HB0.out HB.out);have HXi := zh (HBx.out.below HB.out)
 by_cases hin : i < 8
 ·
  have i1 : (i : Int) < 8 := by omega
  have HVi := zh (HV.out wr (Hr.out.below HBi.out));have hL := HL.out i hin;have hvi : s.v i = .slice (s.a i) (s.n i) (s.c i) := rfl;have HRi := zh (fun w2 (hb : Below wr.heap.size wr w2) => (Hr.out i hin).below (zA HBi.out hb));rw [hvi, hL] at HRi;have Hvi := zh hvi;have HLi := zh hL;clear hvi hL;obtain ⟨c0, c1, c2, c3, c4, c5, c6, c7, c8, c9⟩ := HXi.out.q;have cF := HXi.out.f
  cases vb
  ·
   have hi0 : i = 0 := by
    rcases Hz.out with h | h
    ·
     exact h
    cases h
   subst hi0;have HF := zh (HI0.out rfl);clear HI0 HI1;go_wp2_with fail;refine HVi.out.mono ?_; rintro e w2 ⟨rfl, hb2⟩;have HO2 := zh (zH HO.out hb2);have HB2 := zh (zA HBi.out hb2);have HS2 := zh (HSo.out _ (cat f 0) w2 (OwnT.rd HO2.out) (by simp [cat]));clear c0 c1 c2 c3 c4 c5 c6 c7 c8 c9 cF hb2;go_wp2_with fail;refine HS2.out.mono ?_; rintro e w3 ⟨v3, rfl, hown3, hb3⟩;have HO3 := zh (World.ownsRow.mono hown3 HB2.out.size);have HB3 := zh (zA HB2.out hb3);clear hown3 hb3;go_wp2_with fail;go_ret;exact ⟨_, rfl, by rw [HF.out]; exact HO3.out, HB3.out⟩
  go_wp2_with fail;refine HVi.out.mono ?_; rintro e w2 ⟨rfl, hb2⟩;have HO2 := zh (zH HO.out hb2);have HB2 := zh (zA HBi.out hb2);have HB2' := zh (zA HB.out hb2);have HX2 := zh (HXi.out.below hb2);have HR2 := zh (uo (HRi.out w2 hb2));have c1 := HX2.out.c i hin;rw [Hvi.out, HLi.out] at c1;have hm := HCl.out (i + 1) (by omega);rw [HC.out i] at hm;have HEi := zh (HE.out i);have HOne := zh (zl (f i));have hsz := HB2'.out.size;clear c0 c2 c3 c4 c5 c6 c7 c8 c9 hb2 HVi HRi Hvi HLi;go_wp2_with (at_builtin; refine za (n := (cat f i).length) (m := (f i).length) rfl (.tmp 13) (.tmp 17) 33 rfl yA W0.heap.size rfl HO2.out rfl HR2.out HOne.out (by unfold maxLen; omega) (by omega) hsz ?_; intro v4 w4 hown4 hgr4 hv4; clear hv4; have HO4 := zh (show OwnT w4 W0.heap.size v4 (cat f (i + 1)) from yE hown4 (by rw [HEi.out, zp])); have HB4 := zh (zK HB2'.out HO2.out hsz hgr4); clear hown4 hgr4)
  exact ⟨⟨i + 1, by go_num, by omega, HO4, zh (.inr trivial), HB4⟩, by simp [intOf]; omega⟩
 obtain rfl : i = 8 := by omega
 have hv : vb = true := by
  rcases Hz.out with h | h
  ·
   cases h
  exact h
 subst hv;have HF := zh (HI1.out rfl);clear HI0 HI1;have HS2 := zh (HSo.out _ (cat f 8) wr (OwnT.rd HO.out) (Nat.le_trans (HCl.out 8 (Nat.le_refl _)) (by decide)));go_wp2_with fail;refine HS2.out.mono ?_; rintro e w3 ⟨v3, rfl, hown3, hb3⟩;have HO3 := zh (World.ownsRow.mono hown3 HBi.out.size);have HB3 := zh (zA HBi.out hb3);clear hown3 hb3;go_wp2_with fail;go_ret;exact ⟨_, rfl, by rw [HF.out]; exact HO3.out, HB3.out⟩
theorem zGC (s : Sl) (M : Mp) (w : World) (h : RdM w s M.st) (hs : ∀ i, i < 8 → (M.st i).length ≤ 10000) :
  Calls Tryz.prog 120 #[yC s M.live M.garb] w fun e w' => e = .returned (.int .i64 ((zG M).length : Int)) ∧ Below w.heap.size w w' := by
 have HB0 := zh (zR w s M.live M.garb 111);have HI := zh (wn s M _ (h.below HB0.out) hs);generalize zG M = I at *;clear h hs;obtain ⟨f, L, G⟩ := M;dsimp only at *
 go_enter Tryz.func120, Tryz.ntmps120
 go_wp2_with fail;refine HI.out.mono ?_; rintro e w1 ⟨v1, rfl, hown1, hb1⟩;have HB1 := zh (zA HB0.out hb1);obtain ⟨a, c, hv, _⟩ := zJ hown1;subst hv;clear hown1 hb1;go_wp2_with fail;go_ret;exact ⟨rfl, HB1.out⟩
theorem zB1 (s : Sl) (M : Mp) (key : Int) (w : World) (h : RdM w s M.st) (hs : ∀ i, i < 8 → (M.st i).length ≤ 10000) :
  Calls Tryz.prog 124 #[yC s M.live M.garb, .int .u64 key] w fun e w' => e = .returned (.tuple #[itV ((zW M key).getD it0), .bool (zW M key).isSome]) ∧ Below w.heap.size w w' := by
 have HI := zh (fun W h => wn s M W h hs);have HBt := zh (BoxI.new (w.alloc (.cells (yQ s M.live M.garb) 111)) it0);rw [show (w.alloc (.cells (yQ s M.live M.garb) 111)).heap.size = w.heap.size + 1 by simp] at HBt;have HB0 := zh (zA (zR w s M.live M.garb 111) (zu (w.alloc (.cells (yQ s M.live M.garb) 111)) it0));have HF := zh (fun v W h => zGs v (zG M) key W h (Nat.le_trans (xw hs) (by decide)));rw [vI] at HF;have Hr := zh h;clear h hs;generalize zW M key = o at *;generalize zG M = I at *;obtain ⟨f, L, G⟩ := M;dsimp only at *
 go_enter Tryz.func124, Tryz.ntmps124
 go_wp2_with fail;refine (HI.out _ (Hr.out.below HB0.out)).mono ?_; rintro e w1 ⟨v1, rfl, hown1, hb1⟩;have HB1 := zh (zA HB0.out hb1);have HT1 := zh (HBt.out.below hb1);have HF1 := zh (HF.out _ w1 (OwnT.rd hown1));clear hb1 hown1 HB0 HBt;go_wp2_with fail;refine HF1.out.mono ?_; rintro e w3 ⟨rfl, hb3⟩;have HT3 := zh (HT1.out.below hb3);have HB3 := zh (zA HB1.out hb3);clear hb3;obtain ⟨d0, d1, d2, d3⟩ := HT3.out.t.q;have dF := HT3.out.f;obtain ⟨y, hy⟩ : ∃ y, o.getD it0 = y := ⟨_, rfl⟩
 have Hy := zh hy;rw [hy];clear hy;go_wp2_with fail;change bodyPost _ _ _ _ _ (zCO w3 (w.heap.size + 1) y);have hby := HT3.out.put y;have HBz := zh (uN HB3.out (Nat.le_succ _) y);generalize zCO w3 (w.heap.size + 1) y = V at *;obtain ⟨y0, y1, y2, y3⟩ := hby.t.q;exact bodyPost_ret (v := .tuple #[itV y, .bool o.isSome]) (by simp [results, Tryz.results124, go_sem, y0, y1, y2, y3]) rfl ⟨by rw [Hy.out], HBz.out⟩
end Go.Proofs.YtcgfilmmokmdjaaGreat
