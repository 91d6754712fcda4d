/- Several texts in one, each over the last: Slots, in plain Lean. No program here. Slices of generations in memory. generation.Fresh: the walk. Generations, plain: add, kill, turn, swap. generation.turn, Freeze, Seal: the walks. Printed by genHt.py. -/
import Derived.Test.YtenkeodfijladaaGreatGD
import Derived.Test.YtenkeodfijladaaGreatGv
import Derived.Test.YtenkeodfijladaaGreatGA
import Derived.Test.YtenkeodfijladaaGreatGQ
import Derived.Test.YtenkeodfijladaaGreatGB
namespace Go.Proofs.YtenkeodfijladaaGreat

/-- A generation's numbers, and where its stripes lie. -/
instance : Inhabited Mp := ⟨⟨fun _ => [], 0, 0⟩⟩
def gn0 : Gn := ⟨0, 0, 0, 0, default⟩
instance : Inhabited Gn := ⟨gn0⟩
def gat (l : List Gn) (i : Nat) : Gn := l.getD i gn0
structure Slt where
  id : Int
  lim : Int
  ro : Bool
  gens : List Gn
/-- Number i among the generations is as it should be. -/
def okG (s : Slt) (i : Nat) : Prop :=
  vldG (gat s.gens i) = true ∧ (0 < i → (gat s.gens (i - 1)).num < (gat s.gens i).num) ∧ ((gat s.gens i).mode = 1 ↔ i + 1 = s.gens.length) ∧ (gat s.gens i).size ≤ 2 * s.lim
structure VldSl (s : Slt) : Prop where
  id : 0 ≤ s.id ∧ s.id < 4
  lim : 4136 ≤ s.lim ∧ s.lim ≤ 262144
  len : 1 ≤ s.gens.length ∧ s.gens.length ≤ 8
  g : ∀ i, i < s.gens.length → okG s i
  top : (gat s.gens (s.gens.length - 1)).size + (((itemsM (gat s.gens (s.gens.length - 1)).m).length * 24 : Nat) : Int) ≤ 2 * s.lim
open Classical in
noncomputable def vldSl (s : Slt) : Bool := decide (VldSl s)
theorem vldSl_iff (s : Slt) : vldSl s = true ↔ VldSl s := by unfold vldSl; simp
theorem vldSl_not {s : Slt} (h : ¬ VldSl s) : vldSl s = false := by unfold vldSl; simp [h]
theorem VldSl.vg {s : Slt} (h : VldSl s) {i : Nat} (hi : i < s.gens.length) : VldG (gat s.gens i) := (vldG_iff _).1 (h.g i hi).1
theorem vldSl_noG {s : Slt} {i : Nat} (hi : i < s.gens.length) (h : ¬ okG s i) : vldSl s = false := vldSl_not fun hv => h (hv.g i hi)
/-- The places of a key, the last generation first. -/
structure Fnd where
  gen : Int
  mode : Int
  rev : Int
  it : It
  at_ : Nat
def allF (l : List Gn) (key : Int) : Nat → List Fnd
  | 0 => []
  | n + 1 => (match getM (gat l n).m key with | some x => [⟨(gat l n).num, (gat l n).mode, (gat l n).rev, x, n⟩] | none => []) ++ allF l key n
noncomputable def allSl (s : Slt) (key : Int) : List Fnd := if vldSl s = true then allF s.gens key s.gens.length else []
end Go.Proofs.YtenkeodfijladaaGreat

namespace Go.Proofs.YtenkeodfijladaaGreat
open Go.RowKit

/-- A generation and where its stripes lie. -/
abbrev GP := Gn × Sl
def gp0 : GP := (gn0, Sl.nil)
instance : Inhabited GP := ⟨gp0⟩
def pat (l : List GP) (i : Nat) : GP := l.getD i gp0
def gpC (x : GP) : List Value := [.int .i64 x.1.num, .int .i64 x.1.rev, .int .i64 x.1.mode, .int .i64 x.1.size, .slice (x.2.a 0) (x.2.n 0) (x.2.c 0), .slice (x.2.a 1) (x.2.n 1) (x.2.c 1), .slice (x.2.a 2) (x.2.n 2) (x.2.c 2), .slice (x.2.a 3) (x.2.n 3) (x.2.c 3), .slice (x.2.a 4) (x.2.n 4) (x.2.c 4), .slice (x.2.a 5) (x.2.n 5) (x.2.c 5), .slice (x.2.a 6) (x.2.n 6) (x.2.c 6), .slice (x.2.a 7) (x.2.n 7) (x.2.c 7), .int .i64 x.1.m.live, .int .i64 x.1.m.garb]
abbrev gpV (x : GP) : Value := genV x.1.num x.1.rev x.1.mode x.1.size x.2 x.1.m.live x.1.m.garb
theorem gpC_len (x : GP) : (gpC x).length = 14 := rfl
def gns (l : List GP) : List Gn := l.map Prod.fst
theorem gns_len (l : List GP) : (gns l).length = l.length := List.length_map ..
theorem gat_gns {l : List GP} {i : Nat} : gat (gns l) i = (pat l i).1 := by
  unfold gat gns pat
  rw [List.getD_eq_getElem?_getD, List.getD_eq_getElem?_getD, List.getElem?_map]
  cases l[i]? <;> rfl
theorem pat_mem {l : List GP} {i : Nat} (h : i < l.length) : pat l i ∈ l := by
  unfold pat
  rw [List.getD_eq_getElem?_getD, List.getElem?_eq_getElem h]; exact List.getElem_mem h
/-- v is a slice of generations, and their maps read. -/
structure RdG (w : World) (v : Value) (l : List GP) : Prop where
  r : RdS 14 gpC w v l
  m : ∀ p ∈ l, RdM w p.2 p.1.m.st
theorem RdG.below {w w' : World} {v : Value} {l : List GP} (h : RdG w v l) (hb : Below w.heap.size w w') : RdG w' v l := ⟨RdS.below h.r hb, fun p hp => (h.m p hp).below hb⟩
theorem RdG.shape {w : World} {v : Value} {l : List GP} (h : RdG w v l) : ∃ a cap, v = .slice a l.length cap ∧ l.length ≤ cap ∧ cap ≤ maxLen := by
  obtain ⟨a, cap, h1, h2, h3, _⟩ := RdS.shape h.r (by decide) gp0
  exact ⟨a, cap, h1, h2, h3⟩
/-- The cells of a generation in a row. -/
structure GAt (w : World) (b o : Nat) (x : GP) : Prop where
  n0 : w.cell? ⟨b, o, none⟩ = some (.int .i64 x.1.num)
  n1 : w.cell? ⟨b, o + 1, none⟩ = some (.int .i64 x.1.rev)
  n2 : w.cell? ⟨b, o + 2, none⟩ = some (.int .i64 x.1.mode)
  n3 : w.cell? ⟨b, o + 3, none⟩ = some (.int .i64 x.1.size)
  c0 : w.cell? ⟨b, o + 4, none⟩ = some (.slice (x.2.a 0) (x.2.n 0) (x.2.c 0))
  c1 : w.cell? ⟨b, o + 5, none⟩ = some (.slice (x.2.a 1) (x.2.n 1) (x.2.c 1))
  c2 : w.cell? ⟨b, o + 6, none⟩ = some (.slice (x.2.a 2) (x.2.n 2) (x.2.c 2))
  c3 : w.cell? ⟨b, o + 7, none⟩ = some (.slice (x.2.a 3) (x.2.n 3) (x.2.c 3))
  c4 : w.cell? ⟨b, o + 8, none⟩ = some (.slice (x.2.a 4) (x.2.n 4) (x.2.c 4))
  c5 : w.cell? ⟨b, o + 9, none⟩ = some (.slice (x.2.a 5) (x.2.n 5) (x.2.c 5))
  c6 : w.cell? ⟨b, o + 10, none⟩ = some (.slice (x.2.a 6) (x.2.n 6) (x.2.c 6))
  c7 : w.cell? ⟨b, o + 11, none⟩ = some (.slice (x.2.a 7) (x.2.n 7) (x.2.c 7))
  cl : w.cell? ⟨b, o + 12, none⟩ = some (.int .i64 x.1.m.live)
  cg : w.cell? ⟨b, o + 13, none⟩ = some (.int .i64 x.1.m.garb)
theorem GAt.below {w w' : World} {b o : Nat} {x : GP} (h : GAt w b o x) (hb : Below w.heap.size w w') : GAt w' b o x :=
  ⟨hb.keeps' h.n0, hb.keeps' h.n1, hb.keeps' h.n2, hb.keeps' h.n3, hb.keeps' h.c0, hb.keeps' h.c1, hb.keeps' h.c2, hb.keeps' h.c3, hb.keeps' h.c4, hb.keeps' h.c5, hb.keeps' h.c6, hb.keeps' h.c7, hb.keeps' h.cl, hb.keeps' h.cg⟩
theorem GAt.of_box {w : World} {b : Nat} {g : Gn} {s : Sl} (h : BoxG w b g.num g.rev g.mode g.size s g.m.live g.m.garb) : GAt w b 0 (g, s) :=
  ⟨h.n0, h.n1, h.n2, h.n3, h.c0, h.c1, h.c2, h.c3, h.c4, h.c5, h.c6, h.c7, h.cl, h.cg⟩
theorem GAt.pts_ne {w : World} {b c o : Nat} {x : GP} (h : GAt w b o x) (hp : b ≠ c) (vs : List (Nat × Value)) : GAt (pts w c vs) b o x :=
  ⟨(pts_cell (p := ⟨b, o, none⟩) hp vs w).trans h.n0, (pts_cell (p := ⟨b, o + 1, none⟩) hp vs w).trans h.n1, (pts_cell (p := ⟨b, o + 2, none⟩) hp vs w).trans h.n2, (pts_cell (p := ⟨b, o + 3, none⟩) hp vs w).trans h.n3, (pts_cell (p := ⟨b, o + 4, none⟩) hp vs w).trans h.c0, (pts_cell (p := ⟨b, o + 5, none⟩) hp vs w).trans h.c1, (pts_cell (p := ⟨b, o + 6, none⟩) hp vs w).trans h.c2, (pts_cell (p := ⟨b, o + 7, none⟩) hp vs w).trans h.c3, (pts_cell (p := ⟨b, o + 8, none⟩) hp vs w).trans h.c4, (pts_cell (p := ⟨b, o + 9, none⟩) hp vs w).trans h.c5, (pts_cell (p := ⟨b, o + 10, none⟩) hp vs w).trans h.c6, (pts_cell (p := ⟨b, o + 11, none⟩) hp vs w).trans h.c7, (pts_cell (p := ⟨b, o + 12, none⟩) hp vs w).trans h.cl, (pts_cell (p := ⟨b, o + 13, none⟩) hp vs w).trans h.cg⟩
theorem RdG.at {w : World} {a : Option Addr} {n cap : Nat} {l : List GP} (h : RdG w (.slice a n cap) l) {j : Nat} (hj : j < n) : ∃ b off, a = some ⟨b, off, none⟩ ∧ GAt w b (off + j * 14) (pat l j) := by
  obtain ⟨a', cap', e, h2, h3, _, h5⟩ := RdS.shape h.r (by decide) gp0
  injection e with e1 e2 e3
  subst e1 e2 e3
  obtain ⟨b, off, e, hc⟩ := h5 (by omega)
  refine ⟨b, off, e, ?_, hc j hj 1 _ rfl, hc j hj 2 _ rfl, hc j hj 3 _ rfl, hc j hj 4 _ rfl, hc j hj 5 _ rfl, hc j hj 6 _ rfl, hc j hj 7 _ rfl, hc j hj 8 _ rfl, hc j hj 9 _ rfl, hc j hj 10 _ rfl, hc j hj 11 _ rfl, hc j hj 12 _ rfl, hc j hj 13 _ rfl⟩
  have := hc j hj 0 _ rfl; rwa [Nat.add_zero] at this
theorem RdG.at2 {w : World} {b off : Nat} {n cap : Nat} {l : List GP} (h : RdG w (.slice (some ⟨b, off, none⟩) n cap) l) {j : Nat} (hj : j < n) : GAt w b (off + j * 14) (pat l j) := by
  obtain ⟨b', o', e, h⟩ := h.at hj
  injection e with e
  injection e with e1 e2
  subst e1 e2
  exact h
/-- A slot as a value: its numbers and the slice of its generations. -/
structure SlP where
  id : Int
  lim : Int
  ro : Bool
  gens : List GP
def SlP.s (x : SlP) : Slt := ⟨x.id, x.lim, x.ro, gns x.gens⟩
abbrev sloC (i l : Int) (r : Bool) (a : Option Addr) (n c : Nat) : Array Value := #[.int .i64 i, .int .i64 l, .bool r, .slice a n c]
abbrev sloV (i l : Int) (r : Bool) (a : Option Addr) (n c : Nat) : Value := .agg (sloC i l r a n c)
/-- A slot in a block of its own. -/
structure BoxV (W : World) (b : Nat) (i l : Int) (r : Bool) (a : Option Addr) (n c : Nat) : Prop where
  c0 : W.cell? ⟨b, 0, none⟩ = some (.int .i64 i)
  c1 : W.cell? ⟨b, 1, none⟩ = some (.int .i64 l)
  c2 : W.cell? ⟨b, 2, none⟩ = some (.bool r)
  c3 : W.cell? ⟨b, 3, none⟩ = some (.slice a n c)
  f : ∀ i, W.frozen? ⟨b, i, none⟩ = false
section
variable {W : World} {b : Nat} {i l : Int} {r : Bool} {a : Option Addr} {n c : Nat}
theorem BoxV.new (W : World) (i l : Int) (r : Bool) (a : Option Addr) (n c : Nat) (t : TypeId) : BoxV (W.alloc (.cells (sloC i l r a n c) t)) W.heap.size i l r a n c := ⟨by simp, by simp, by simp, by simp, fun i => by simp⟩
theorem below_slo (w : World) (i l : Int) (r : Bool) (a : Option Addr) (n c : Nat) (t : TypeId) : Below w.heap.size w (w.alloc (.cells (sloC i l r a n c) t)) := (Below.refl _ _).alloc (Nat.le_refl _) _
theorem BoxV.lt (h : BoxV W b i l r a n c) : b < W.heap.size := World.block_lt_of_cell? W _ h.c0
theorem BoxV.below {W' : World} (h : BoxV W b i l r a n c) (hb : Below W.heap.size W W') : BoxV W' b i l r a n c := ⟨hb.keeps' h.c0, hb.keeps' h.c1, hb.keeps' h.c2, hb.keeps' h.c3, fun i => (hb.frozen (p := ⟨b, i, none⟩) h.lt).trans (h.f i)⟩
abbrev sloL (i l : Int) (r : Bool) (a : Option Addr) (n c : Nat) : List (Nat × Value) := [(0, .int .i64 i), (1, .int .i64 l), (2, .bool r), (3, .slice a n c)]
theorem BoxV.all (h : BoxV W b i l r a n c) (i' l' : Int) (r' : Bool) (a' : Option Addr) (n' c' : Nat) : BoxV (pts W b (sloL i' l' r' a' n' c')) b i' l' r' a' n' c' := by
  have a0 := h.c0
  have a1 := h.c1
  have a2 := h.c2
  have a3 := h.c3
  refine ⟨?_, ?_, ?_, ?_, fun i => (pts_frozen _ _ W).trans (h.f i)⟩
  · simp [pts, go_sem, a0]
  · simp [pts, go_sem, a1]
  · simp [pts, go_sem, a2]
  · simp [pts, go_sem, a3]
end
end Go.Proofs.YtenkeodfijladaaGreat

namespace Go.Proofs.YtenkeodfijladaaGreat
open Go.RowKit

/-- A generation without items. -/
def fresh (num : Int) : Gn := ⟨num, 0, 1, 16, fun _ => [], 0, 0⟩
theorem rdM_nil (w : World) : RdM w Sl.nil (fun _ => []) := fun _ _ => RdS.nil 4 itC w
theorem fresh_map (num : Int) : vldM (fresh num).m = true := by
  rw [vldM_iff]
  exact ⟨fun _ _ => rfl, fun _ _ x hx => (by cases hx), rfl, Int.le_refl _, by show (0 : Int) ≤ 1099511627776; decide⟩
theorem fresh_vld (num : Int) : VldG (fresh num) ↔ 1 ≤ num ∧ num ≤ 8 := by
  constructor
  · intro h; exact h.num
  · intro h
    refine ⟨h, ⟨Int.le_refl _, by show (0 : Int) ≤ _; decide⟩, ?_, ?_, fresh_map num, rfl, rfl⟩
    · show (1 : Int) ≤ 1 ∧ (1 : Int) ≤ 3; decide
    · show (16 : Int) ≤ 16 ∧ (16 : Int) ≤ 1048576 ∧ (16 : Int) % 8 = 0; decide
set_option maxRecDepth 100000 in
set_option maxHeartbeats 4000000 in
theorem fresh_any (num : Int) (hn : 1 ≤ num ∧ num ≤ 8) (w : World) : Calls Tryz.prog 79 #[.int .i64 num] w fun e w' => e = .returned (.tuple #[genV num 0 1 16 Sl.nil 0 0, .int .i64 0]) ∧ Below w.heap.size w w' := by
  have HV := Lib.hid (fun W => gvalid_any (fresh num) Sl.nil W (rdM_nil W) (fun _ _ => Nat.zero_le _))
  rw [(vldG_iff _).2 ((fresh_vld num).2 hn)] at HV
  dsimp only [fresh] at HV
  have HN := Lib.hid (fun W => new_any W)
  have HB := Lib.hid (below_gen w 0 0 0 0 Sl.nil 0 0 58)
  have HR := Lib.hid (BoxG.new w 0 0 0 0 Sl.nil 0 0 58)
  clear hn
  generalize hnil : Sl.nil = s0 at *
  have HNil := Lib.hid hnil
  clear hnil
  go_enter Tryz.func79, Tryz.ntmps79
  go_wp2_with fail
  refine (HN.out _).mono ?_
  rintro e w1 ⟨rfl, hb1⟩
  obtain ⟨W0, hW0⟩ : ∃ W0, w.alloc (.cells (genC 0 0 0 0 s0 0 0) 58) = W0 := ⟨_, rfl⟩
  have hb1' : Below (w.alloc (.cells (genC 0 0 0 0 s0 0 0) 58)).heap.size (w.alloc (.cells (genC 0 0 0 0 s0 0 0) 58)) w1 := by
    rw [← HNil.out]; exact hb1
  rw [hW0] at hb1' HB HR
  have HB1 := Lib.hid (bstep HB.out hb1')
  have HR1 := Lib.hid (HR.out.below hb1')
  clear hb1 hb1' HB HR hW0
  have hlR := HR1.out.lt
  generalize hb0 : w.heap.size = b0 at *
  have E0 := Lib.hid hb0
  clear hb0
  go_upto_region 2 with fail
  obtain ⟨W, hW⟩ : ∃ W, w1.alloc (.cells (genC num 0 1 16 s0 0 0) 58) = W := ⟨_, rfl⟩
  have HX := Lib.hid (BoxG.new w1 num 0 1 16 s0 0 0 58)
  have HBx := Lib.hid (below_gen w1 num 0 1 16 s0 0 0 58)
  change Code.wp _ _ _ _ (w1.alloc (.cells (genC num 0 1 16 s0 0 0) 58))
  rw [hW] at HX HBx ⊢
  clear hW
  have HR2 := Lib.hid (HR1.out.below HBx.out)
  have HB2 := Lib.hid (bup HB1.out (Nat.le_of_lt hlR) HBx.out)
  have hlX := HX.out.lt
  have m0 := HX.out.n0
  have m1 := HX.out.n1
  have m2 := HX.out.n2
  have m3 := HX.out.n3
  have m4 := HX.out.c0
  have m5 := HX.out.c1
  have m6 := HX.out.c2
  have m7 := HX.out.c3
  have m8 := HX.out.c4
  have m9 := HX.out.c5
  have m10 := HX.out.c6
  have m11 := HX.out.c7
  have m12 := HX.out.cl
  have m13 := HX.out.cg
  go_wp2_with fail
  refine (HV.out _).mono ?_
  rintro e w2 ⟨rfl, hb2⟩
  clear m0 m1 m2 m3 m4 m5 m6 m7 m8 m9 m10 m11 m12 m13
  have HX3 := Lib.hid (HX.out.below hb2)
  have HR3 := Lib.hid (HR2.out.below hb2)
  have HB3 := Lib.hid (bup HB2.out (Nat.le_of_lt HR2.out.lt) hb2)
  have hlR3 := HR3.out.lt
  have hlX3 := HX3.out.lt
  have hne : b0 ≠ w1.heap.size := by omega
  clear hb2 HX HR2 HB2 HV HN HR1 HB1 HBx hlX
  generalize w1.heap.size = b1 at *
  have m0 := HX3.out.n0
  have m1 := HX3.out.n1
  have m2 := HX3.out.n2
  have m3 := HX3.out.n3
  have m4 := HX3.out.c0
  have m5 := HX3.out.c1
  have m6 := HX3.out.c2
  have m7 := HX3.out.c3
  have m8 := HX3.out.c4
  have m9 := HX3.out.c5
  have m10 := HX3.out.c6
  have m11 := HX3.out.c7
  have m12 := HX3.out.cl
  have m13 := HX3.out.cg
  have d0 := HR3.out.n0
  have d1 := HR3.out.n1
  have d2 := HR3.out.n2
  have d3 := HR3.out.n3
  have d4 := HR3.out.c0
  have d5 := HR3.out.c1
  have d6 := HR3.out.c2
  have d7 := HR3.out.c3
  have d8 := HR3.out.c4
  have d9 := HR3.out.c5
  have d10 := HR3.out.c6
  have d11 := HR3.out.c7
  have d12 := HR3.out.cl
  have d13 := HR3.out.cg
  have F := HR3.out.f
  go_wp2_with fail
  change bodyPost _ _ _ _ _ (pts w2 b0 (genL num 0 1 16 s0 0 0))
  have hby := HR3.out.all num 0 1 16 s0 0 0
  have HBz := Lib.hid (pts_below (B := b0) (Nat.le_refl _) (genL num 0 1 16 s0 0 0) HB3.out)
  generalize pts w2 b0 (genL num 0 1 16 s0 0 0) = V at *
  exact bodyPost_ret (v := .tuple #[genV num 0 1 16 s0 0 0, .int .i64 0]) (by simp [results, Tryz.results79, go_sem, hby.n0, hby.n1, hby.n2, hby.n3, hby.c0, hby.c1, hby.c2, hby.c3, hby.c4, hby.c5, hby.c6, hby.c7, hby.cl, hby.cg]) rfl ⟨rfl, by rw [E0.out]; exact HBz.out⟩
end Go.Proofs.YtenkeodfijladaaGreat

namespace Go.Proofs.YtenkeodfijladaaGreat
open Go.RowKit

def itA (g : Gn) (x : Nd) : It := ⟨(x.key : Int), (x.ck : Int), g.size, (x.data.length : Int)⟩
/-- A record appended. -/
def addOne (g : Gn) (x : Nd) : Gn := { g with m := if x.del then wasteM (delM g.m x.key) (szN x.data.length : Nat) else insM g.m (itA g x), size := g.size + (szN x.data.length : Nat) }
def addAll (g : Gn) (l : List Nd) : Gn := l.foldl addOne g
def szL (l : List Nd) : Nat := (l.map fun x => szN x.data.length).sum
instance (x : Nd) : Decidable x.ok := by unfold Nd.ok; infer_instance
def okLB (l : List Nd) : Bool := l.all fun x => decide x.ok
def addG (g : Gn) (l : List Nd) : Int × Gn := if vldG g = true ∧ okLB l = true then (if g.mode = 1 then (if g.size + (szL l : Int) ≤ 1048576 then (0, addAll g l) else (9, gn0)) else (12, gn0)) else (1, gn0)
def killG (g : Gn) (l : List Int) : Int × Gn := if vldG g = true then (if g.mode = 1 then (12, gn0) else (0, { g with m := l.foldl delM g.m })) else (1, gn0)
def turnG (g : Gn) (frm : Int) : Int × Gn := if vldG g = true then (if g.mode = frm then (0, { g with mode := frm + 1 }) else (12, gn0)) else (1, gn0)
def swapG (g : Gn) (rev size : Int) (m : Mp) : Int × Gn := if vldG g = true then (if g.mode = 1 ∧ rev = g.rev + 1 then (if vldG ⟨g.num, rev, g.mode, size, m⟩ = true then (0, ⟨g.num, rev, g.mode, size, m⟩) else (1, gn0)) else (12, gn0)) else (1, gn0)
/-- What a change of a generation hands back. -/
def GRes (w0 : World) (p : Int × Gn) (e : Ending) (w' : World) : Prop := (∃ s, e = .returned (.tuple #[genV p.2.num p.2.rev p.2.mode p.2.size s p.2.m.live p.2.m.garb, .int .i64 p.1]) ∧ RdM w' s p.2.m.st) ∧ Below w0.heap.size w0 w'
/-- The same, where the map is of the call's own. -/
def GOwn (w0 : World) (p : Int × Gn) (e : Ending) (w' : World) : Prop := (∃ s, e = .returned (.tuple #[genV p.2.num p.2.rev p.2.mode p.2.size s p.2.m.live p.2.m.garb, .int .i64 p.1]) ∧ OwnM w' w0.heap.size s p.2.m.st) ∧ Below w0.heap.size w0 w'
theorem GOwn.res {w0 : World} {p : Int × Gn} {e : Ending} {w' : World} (h : GOwn w0 p e w') : GRes w0 p e w' := ⟨h.1.imp fun _ h => ⟨h.1, h.2.rd⟩, h.2⟩
theorem wasteM_zero (M : Mp) : wasteM M 0 = M := by
  unfold wasteM
  split
  · rw [Int.add_zero]
  · rfl
theorem szL_nil : szL [] = 0 := rfl
theorem szL_cons (x : Nd) (l : List Nd) : szL (x :: l) = szN x.data.length + szL l := by simp [szL]
theorem addAll_snoc (g : Gn) (l : List Nd) (x : Nd) : addAll g (l ++ [x]) = addOne (addAll g l) x := by simp [addAll]
theorem szL_snoc (l : List Nd) (x : Nd) : szL (l ++ [x]) = szL l + szN x.data.length := by simp [szL]
theorem addOne_size (g : Gn) (x : Nd) : (addOne g x).size = g.size + (szN x.data.length : Nat) := rfl
theorem addAll_size (g : Gn) : ∀ l, (addAll g l).size = g.size + (szL l : Nat)
  | [] => by simp [addAll, szL]
  | x :: r => by
    have := addAll_size (addOne g x) r
    rw [addOne_size] at this
    show (addAll (addOne g x) r).size = _
    rw [this, szL_cons]; omega
theorem addOne_num (g : Gn) (x : Nd) : (addOne g x).num = g.num ∧ (addOne g x).rev = g.rev ∧ (addOne g x).mode = g.mode := ⟨rfl, rfl, rfl⟩
theorem addAll_num : ∀ (l : List Nd) (g : Gn), (addAll g l).num = g.num ∧ (addAll g l).rev = g.rev ∧ (addAll g l).mode = g.mode
  | [], _ => ⟨rfl, rfl, rfl⟩
  | x :: r, g => by
    have := addAll_num r (addOne g x)
    exact this
theorem insM_len8 (M : Mp) (x : It) {n : Nat} (h : ∀ i, i < 8 → (M.st i).length ≤ n) : ∀ i, i < 8 → ((insM M x).st i).length ≤ n + 1 := fun i hi => by
  unfold insM
  split
  · show (if i = strp x.key then ins (M.st i) x else M.st i).length ≤ n + 1
    have h1 := ins_length x (M.st i)
    have h2 := h i hi
    split <;> omega
  · have h2 := h i hi; omega
theorem delM_len8 (M : Mp) (k : Int) {n : Nat} (h : ∀ i, i < 8 → (M.st i).length ≤ n) : ∀ i, i < 8 → ((delM M k).st i).length ≤ n := fun i hi => by
  unfold delM
  split
  · exact h i hi
  · split
    · show (if i = strp k then drp (M.st i) k else M.st i).length ≤ n
      have h1 := drp_length (M.st i) k
      have h2 := h i hi
      split <;> omega
    · exact h i hi
theorem wasteM_st (M : Mp) (z : Int) : (wasteM M z).st = M.st := by unfold wasteM; split <;> rfl
theorem addOne_len (g : Gn) (x : Nd) {n : Nat} (h : ∀ i, i < 8 → (g.m.st i).length ≤ n) : ∀ i, i < 8 → ((addOne g x).m.st i).length ≤ n + 1 := fun i hi => by
  unfold addOne
  dsimp only
  split
  · rw [wasteM_st]
    exact Nat.le_succ_of_le (delM_len8 _ _ h i hi)
  · exact insM_len8 _ _ h i hi
theorem addAll_len : ∀ (l : List Nd) (g : Gn) {n : Nat}, (∀ i, i < 8 → (g.m.st i).length ≤ n) → ∀ i, i < 8 → ((addAll g l).m.st i).length ≤ n + l.length
  | [], _, _, h => h
  | x :: r, g, n, h => fun i hi => by
    have := addAll_len r (addOne g x) (addOne_len g x h) i hi
    rw [List.length_cons]
    exact Nat.le_trans this (by omega)
theorem delAll_len : ∀ (l : List Int) (M : Mp) {n : Nat}, (∀ i, i < 8 → (M.st i).length ≤ n) → ∀ i, i < 8 → ((l.foldl delM M).st i).length ≤ n
  | [], _, _, h => h
  | x :: r, M, _, h => delAll_len r (delM M x) (delM_len8 M x h)
end Go.Proofs.YtenkeodfijladaaGreat

namespace Go.Proofs.YtenkeodfijladaaGreat
open Go.RowKit

/-- The two boxes of a change: the generation that came in, and the result, which is the zero. -/
theorem two_box (w : World) (n r md z : Int) (s : Sl) (l g : Int) (t : TypeId) : ∃ W, (w.alloc (.cells (genC n r md z s l g) t)).alloc (.cells (genC 0 0 0 0 Sl.nil 0 0) t) = W ∧ BoxG W w.heap.size n r md z s l g ∧ BoxG W (w.heap.size + 1) 0 0 0 0 Sl.nil 0 0 ∧ Below w.heap.size w W := by
  refine ⟨_, rfl, (BoxG.new w n r md z s l g t).below (below_gen _ 0 0 0 0 Sl.nil 0 0 t), ?_, bstep (below_gen w n r md z s l g t) (below_gen _ 0 0 0 0 Sl.nil 0 0 t)⟩
  have := BoxG.new (w.alloc (.cells (genC n r md z s l g) t)) 0 0 0 0 Sl.nil 0 0 t
  rwa [World.size_alloc] at this
set_option maxRecDepth 100000 in
set_option maxHeartbeats 4000000 in
theorem turn_any (g : Gn) (s : Sl) (frm : Int) (w : World) (h : RdM w s g.m.st) (hs : ∀ i, i < 8 → (g.m.st i).length ≤ 10000) :
    Calls Tryz.prog 128 #[genV g.num g.rev g.mode g.size s g.m.live g.m.garb, .int .i64 frm] w (GOwn w (turnG g frm)) := by
  have HV := Lib.hid (fun W (hb : Below w.heap.size w W) => gvalid_any g s W (h.below hb) hs)
  have HW := Lib.hid (fun W (hb : Below w.heap.size w W) => wasteM_any s g.m 0 W (h.below hb) hs)
  rw [wasteM_zero] at HW
  have HR0 := Lib.hid (show ∀ W, OwnM W w.heap.size Sl.nil gn0.m.st from fun W => OwnM.nil W _)
  have HG := Lib.hid (show turnG g frm = if vldG g = true then (if g.mode = frm then (0, { g with mode := frm + 1 }) else (12, gn0)) else (1, gn0) from rfl)
  have Hmd := Lib.hid (show vldG g = true → 1 ≤ g.mode ∧ g.mode ≤ 3 from fun hv => ((vldG_iff g).1 hv).mode)
  generalize vldG g = vb at *
  obtain ⟨n, r, md, z, ⟨f, L, G⟩⟩ := g
  dsimp only at *
  generalize turnG ⟨n, r, md, z, ⟨f, L, G⟩⟩ frm = TG at *
  obtain ⟨W, hW, hbx, hbr, hbw⟩ := two_box w n r md z s L G 58
  have HX := Lib.hid hbx
  have HR := Lib.hid hbr
  have HB := Lib.hid hbw
  clear hbx hbr hbw h hs
  go_enter Tryz.func128, Tryz.ntmps128
  go_upto_region 1 with fail
  change Code.wp _ _ _ _ ((w.alloc (.cells (genC n r md z s L G) 58)).alloc (.cells (genC 0 0 0 0 Sl.nil 0 0) 58))
  rw [hW]
  clear hW
  have x0 := HX.out.n0
  have x1 := HX.out.n1
  have x2 := HX.out.n2
  have x3 := HX.out.n3
  have x4 := HX.out.c0
  have x5 := HX.out.c1
  have x6 := HX.out.c2
  have x7 := HX.out.c3
  have x8 := HX.out.c4
  have x9 := HX.out.c5
  have x10 := HX.out.c6
  have x11 := HX.out.c7
  have x12 := HX.out.cl
  have x13 := HX.out.cg
  go_wp2_with fail
  refine (HV.out _ HB.out).mono ?_
  rintro e w1 ⟨rfl, hb1⟩
  have HX1 := Lib.hid (HX.out.below hb1)
  have HR1 := Lib.hid (HR.out.below hb1)
  have HB1 := Lib.hid (bstep HB.out hb1)
  clear x0 x1 x2 x3 x4 x5 x6 x7 x8 x9 x10 x11 x12 x13
  clear hb1 HX HR HB HV
  have hlr := HR1.out.lt
  cases vb
  · have HPR := Lib.hid (show TG = (1, gn0) from HG.out)
    have r0 := HR1.out.n0
    have r1 := HR1.out.n1
    have r2 := HR1.out.n2
    have r3 := HR1.out.n3
    have r4 := HR1.out.c0
    have r5 := HR1.out.c1
    have r6 := HR1.out.c2
    have r7 := HR1.out.c3
    have r8 := HR1.out.c4
    have r9 := HR1.out.c5
    have r10 := HR1.out.c6
    have r11 := HR1.out.c7
    have r12 := HR1.out.cl
    have r13 := HR1.out.cg
    have rf := HR1.out.f
    go_wp2_with fail
    change bodyPost _ _ _ _ _ (pts w1 (w.heap.size + 1) (genL 0 0 0 0 Sl.nil 0 0))
    have hby := HR1.out.all 0 0 0 0 Sl.nil 0 0
    have HBz := Lib.hid (pts_below (B := w.heap.size) (b := (w.heap.size + 1)) (by omega) (genL 0 0 0 0 Sl.nil 0 0) HB1.out)
    have hrd := HR0.out (pts w1 (w.heap.size + 1) (genL 0 0 0 0 Sl.nil 0 0))
    rw [HPR.out]
    generalize pts w1 (w.heap.size + 1) (genL 0 0 0 0 Sl.nil 0 0) = V at *
    exact bodyPost_ret (v := .tuple #[genV 0 0 0 0 Sl.nil 0 0, .int .i64 1]) (by simp [results, Tryz.results128, go_sem, hby.n0, hby.n1, hby.n2, hby.n3, hby.c0, hby.c1, hby.c2, hby.c3, hby.c4, hby.c5, hby.c6, hby.c7, hby.cl, hby.cg]) rfl ⟨⟨_, rfl, hrd⟩, HBz.out⟩
  · have hmd2 := Hmd.out rfl
    by_cases hm : md = frm
    · subst hm
      have HPR := Lib.hid (show TG = (0, ⟨n, r, md + 1, z, ⟨f, L, G⟩⟩) by rw [HG.out, if_pos rfl, if_pos rfl])
      clear HG Hmd
      have x0 := HX1.out.n0
      have x1 := HX1.out.n1
      have x2 := HX1.out.n2
      have x3 := HX1.out.n3
      have x4 := HX1.out.c0
      have x5 := HX1.out.c1
      have x6 := HX1.out.c2
      have x7 := HX1.out.c3
      have x8 := HX1.out.c4
      have x9 := HX1.out.c5
      have x10 := HX1.out.c6
      have x11 := HX1.out.c7
      have x12 := HX1.out.cl
      have x13 := HX1.out.cg
      have xf := HX1.out.f
      go_upto_region 6 with fail
      change Code.wp _ _ _ _ (pts w1 w.heap.size [(2, .int .i64 (md + 1))])
      have HX2 := Lib.hid (HX1.out.num2 (md + 1))
      have HR2 := Lib.hid (HR1.out.pts_ne (show w.heap.size + 1 ≠ w.heap.size by omega) [(2, .int .i64 (md + 1))])
      have HB2 := Lib.hid (pts_below (B := w.heap.size) (b := w.heap.size) (Nat.le_refl _) [(2, .int .i64 (md + 1))] HB1.out)
      have hz2 : (pts w1 w.heap.size [(2, .int .i64 (md + 1))]).heap.size = w1.heap.size := pts_size _ _
      generalize pts w1 w.heap.size [(2, .int .i64 (md + 1))] = w2 at *
      clear x0 x1 x2 x3 x4 x5 x6 x7 x8 x9 x10 x11 x12 x13 xf
      clear HX1 HR1 HB1
      have x0 := HX2.out.n0
      have x1 := HX2.out.n1
      have x2 := HX2.out.n2
      have x3 := HX2.out.n3
      have x4 := HX2.out.c0
      have x5 := HX2.out.c1
      have x6 := HX2.out.c2
      have x7 := HX2.out.c3
      have x8 := HX2.out.c4
      have x9 := HX2.out.c5
      have x10 := HX2.out.c6
      have x11 := HX2.out.c7
      have x12 := HX2.out.cl
      have x13 := HX2.out.cg
      have xf := HX2.out.f
      go_wp2_with fail
      refine (HW.out _ HB2.out).mono ?_
      rintro e w3 ⟨⟨s3, rfl, ho3⟩, hb3⟩
      have HX3 := Lib.hid (HX2.out.below hb3)
      have HR3 := Lib.hid (HR2.out.below hb3)
      have HB3 := Lib.hid (bstep HB2.out hb3)
      have HO3 := Lib.hid (ho3.mono (show w.heap.size + 2 ≤ w2.heap.size by omega))
      clear x0 x1 x2 x3 x4 x5 x6 x7 x8 x9 x10 x11 x12 x13 xf
      clear hb3 ho3 HX2 HR2 HB2 HW hz2
      have x0 := HX3.out.n0
      have x1 := HX3.out.n1
      have x2 := HX3.out.n2
      have x3 := HX3.out.n3
      have x4 := HX3.out.c0
      have x5 := HX3.out.c1
      have x6 := HX3.out.c2
      have x7 := HX3.out.c3
      have x8 := HX3.out.c4
      have x9 := HX3.out.c5
      have x10 := HX3.out.c6
      have x11 := HX3.out.c7
      have x12 := HX3.out.cl
      have x13 := HX3.out.cg
      have xf := HX3.out.f
      go_upto_region 7 with fail
      change Code.wp _ _ _ _ (pts w3 w.heap.size (mapL s3 L G))
      have HX4 := Lib.hid (HX3.out.map s3 L G)
      have HR4 := Lib.hid (HR3.out.pts_ne (show w.heap.size + 1 ≠ w.heap.size by omega) (mapL s3 L G))
      have HB4 := Lib.hid (pts_below (B := w.heap.size) (b := w.heap.size) (Nat.le_refl _) (mapL s3 L G) HB3.out)
      have HO4 := Lib.hid (HO3.out.pts (show w.heap.size < w.heap.size + 2 by omega) (mapL s3 L G))
      generalize pts w3 w.heap.size (mapL s3 L G) = w4 at *
      clear x0 x1 x2 x3 x4 x5 x6 x7 x8 x9 x10 x11 x12 x13 xf
      clear HX3 HR3 HB3 HO3
      have x0 := HX4.out.n0
      have x1 := HX4.out.n1
      have x2 := HX4.out.n2
      have x3 := HX4.out.n3
      have x4 := HX4.out.c0
      have x5 := HX4.out.c1
      have x6 := HX4.out.c2
      have x7 := HX4.out.c3
      have x8 := HX4.out.c4
      have x9 := HX4.out.c5
      have x10 := HX4.out.c6
      have x11 := HX4.out.c7
      have x12 := HX4.out.cl
      have x13 := HX4.out.cg
      have r0 := HR4.out.n0
      have r1 := HR4.out.n1
      have r2 := HR4.out.n2
      have r3 := HR4.out.n3
      have r4 := HR4.out.c0
      have r5 := HR4.out.c1
      have r6 := HR4.out.c2
      have r7 := HR4.out.c3
      have r8 := HR4.out.c4
      have r9 := HR4.out.c5
      have r10 := HR4.out.c6
      have r11 := HR4.out.c7
      have r12 := HR4.out.cl
      have r13 := HR4.out.cg
      have rf := HR4.out.f
      go_wp2_with fail
      change bodyPost _ _ _ _ _ (pts w4 (w.heap.size + 1) (genL n r (md + 1) z s3 L G))
      have hby := HR4.out.all n r (md + 1) z s3 L G
      have HBz := Lib.hid (pts_below (B := w.heap.size) (b := (w.heap.size + 1)) (by omega) (genL n r (md + 1) z s3 L G) HB4.out)
      have hrd := (HO4.out.pts (show w.heap.size + 1 < w.heap.size + 2 by omega) (genL n r (md + 1) z s3 L G)).mono (show w.heap.size ≤ w.heap.size + 2 by omega)
      rw [HPR.out]
      generalize pts w4 (w.heap.size + 1) (genL n r (md + 1) z s3 L G) = V at *
      exact bodyPost_ret (v := .tuple #[genV n r (md + 1) z s3 L G, .int .i64 0]) (by simp [results, Tryz.results128, go_sem, hby.n0, hby.n1, hby.n2, hby.n3, hby.c0, hby.c1, hby.c2, hby.c3, hby.c4, hby.c5, hby.c6, hby.c7, hby.cl, hby.cg]) rfl ⟨⟨_, rfl, hrd⟩, HBz.out⟩
    · have HPR := Lib.hid (show TG = (12, gn0) by rw [HG.out, if_pos rfl, if_neg hm])
      have e0 : (md == frm) = false := beq_eq_false_iff_ne.2 hm
      clear HG Hmd
      have x0 := HX1.out.n0
      have x1 := HX1.out.n1
      have x2 := HX1.out.n2
      have x3 := HX1.out.n3
      have x4 := HX1.out.c0
      have x5 := HX1.out.c1
      have x6 := HX1.out.c2
      have x7 := HX1.out.c3
      have x8 := HX1.out.c4
      have x9 := HX1.out.c5
      have x10 := HX1.out.c6
      have x11 := HX1.out.c7
      have x12 := HX1.out.cl
      have x13 := HX1.out.cg
      have r0 := HR1.out.n0
      have r1 := HR1.out.n1
      have r2 := HR1.out.n2
      have r3 := HR1.out.n3
      have r4 := HR1.out.c0
      have r5 := HR1.out.c1
      have r6 := HR1.out.c2
      have r7 := HR1.out.c3
      have r8 := HR1.out.c4
      have r9 := HR1.out.c5
      have r10 := HR1.out.c6
      have r11 := HR1.out.c7
      have r12 := HR1.out.cl
      have r13 := HR1.out.cg
      have rf := HR1.out.f
      go_wp2_with fail
      change bodyPost _ _ _ _ _ (pts w1 (w.heap.size + 1) (genL 0 0 0 0 Sl.nil 0 0))
      have hby := HR1.out.all 0 0 0 0 Sl.nil 0 0
      have HBz := Lib.hid (pts_below (B := w.heap.size) (b := (w.heap.size + 1)) (by omega) (genL 0 0 0 0 Sl.nil 0 0) HB1.out)
      have hrd := HR0.out (pts w1 (w.heap.size + 1) (genL 0 0 0 0 Sl.nil 0 0))
      rw [HPR.out]
      generalize pts w1 (w.heap.size + 1) (genL 0 0 0 0 Sl.nil 0 0) = V at *
      exact bodyPost_ret (v := .tuple #[genV 0 0 0 0 Sl.nil 0 0, .int .i64 12]) (by simp [results, Tryz.results128, go_sem, hby.n0, hby.n1, hby.n2, hby.n3, hby.c0, hby.c1, hby.c2, hby.c3, hby.c4, hby.c5, hby.c6, hby.c7, hby.cl, hby.cg]) rfl ⟨⟨_, rfl, hrd⟩, HBz.out⟩
end Go.Proofs.YtenkeodfijladaaGreat
